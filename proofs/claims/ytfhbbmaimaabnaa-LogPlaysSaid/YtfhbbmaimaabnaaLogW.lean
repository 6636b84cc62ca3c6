/- The statement LogPlays: its walk. -/
import Derived.Test.YtfhbbmaimaabnaaLogN
namespace Go.Proofs.Ytfhbbmaimaabnaa
open Go.RowKit Go.Cx Go.F64
set_option linter.unusedVariables false
set_option linter.unusedSimpArgs false

set_option maxRecDepth 100000 in
set_option maxHeartbeats 8000000 in
theorem LogPlays_walk (w : World) (a0 : Option Addr) (n0 c0 : Nat) (l0 : List (List UInt8)) (h0 : RowsAt w a0 n0 c0 l0) (a1 : Option Addr) (n1 c1 : Nat) (l1 : List Int) (h1 : Sl w 1 a1 n1 c1 (iv l1)) (q1 : ∀ z ∈ l1, I64 z) (a2 : Option Addr) (n2 c2 : Nat) (l2 : List Int) (h2 : Sl w 1 a2 n2 c2 (iv l2)) (q2 : ∀ z ∈ l2, I64 z) :
    Calls Try.prog 9 #[.slice a0 n0 c0, .slice a1 n1 c1, .slice a2 n2 c2] w fun e w' => e = .returned (.bool true) ∧ Below w.heap.size w w' := by
  refine Calls.mono (R := True_ w) ?_ (fun e w' h => ⟨h.1, h.2.below0⟩)
  have hl1 : l1.length = n1 := by have := h1.1; rw [iv_length] at this; omega
  have hl2 : l2.length = n2 := by have := h2.1; rw [iv_length] at this; omega
  have L1 := hid hl1
  have L2 := hid hl2
  have L0 := hid h0.1
  have H0 := hid h0
  have H1 := hid h1
  have H2 := hid h2
  have Q1 := hid q1
  have Q2 := hid q2
  have ON := hid (open_new 400)
  clear h0 h1 h2 q1 q2 hl1 hl2
  go_enter Try.func9, Try.ntmps9
  go_upto_region 6 with (first
    | (go_at_call 10; refine (known11_any _).mono ?_; rintro e w1 ⟨rfl, hc1⟩; have C1 := hid hc1; clear hc1)
    | (go_at_call 12; refine (new_any 400 _).mono ?_; rintro e w2 ⟨p, q, rfl, hd2, hp, hq, hc2⟩; have D2 := hid hd2; have C2 := hid hc2; clear hd2 hc2)
    | (go_at_call 13; refine (rnew_any 400 _).mono ?_; rintro e w3 ⟨x, rfl, hx, hr3, hc3⟩; have B3 := hid (new_base C1.out D2.out C2.out hp hq hx hr3 hc3); clear hr3 hc3)
    | (go_at_call 16; refine (lopen_any p q _ _ B3.out.1.dk).mono ?_; unfold OpenPost; rw [ON.out.1, ON.out.2]; rintro e w4 ⟨hd4, hc4, (⟨h, _⟩ | ⟨_, la, a4, c4, rfl, hl4, _, hla⟩)⟩; (exact absurd rfl h); have D4 := hid hd4; have R4 := hid (B3.out.wide hc4); have L4 := hid hl4; have C4 := hid hc4; clear hd4 hc4 hl4)
    | (go_at_call 17; refine (ropen_any _ x _ _ R4.out).mono ?_; unfold ROpenPost; rw [ON.out.1, ON.out.2]; rintro e w5 ⟨hr5, hc5, (⟨h, _⟩ | ⟨_, lb, a5, c5, rfl, hlr5, _, hlb⟩)⟩; (exact absurd rfl h); have P5 := hid (B3.out.opened C4.out D4.out L4.out hla hr5 hc5 hlr5 hlb); clear hr5 hc5 hlr5))
  obtain ⟨d0, hd0⟩ : ∃ d0, d0 = (Dk.new 400).open.1 := ⟨_, rfl⟩
  obtain ⟨F0, hF0⟩ : ∃ F0 : Nat → Prop, F0 = fun k => (k < w3.heap.size ∨ w3.heap.size ≤ k ∧ k < w4.heap.size) ∨ k = lb := ⟨_, rfl⟩
  rw [← hd0, ← hF0] at P5
  clear C1 C2 D2 B3 D4 R4 L4 C4 hp hq hx hla hlb hd0 hF0 ON
  go_wp2
  go_loopg [9, 12, 15] 50 (fun k va vb vi wr => ∃ i la lb N K d F, i + k = 50 ∧ va = .pointer (some ⟨la, 0, none⟩) ∧ vb = .pointer (some ⟨lb, 0, none⟩) ∧ vi = .int .i64 i ∧ Hid (PS w wr p q x la lb N K d F) ∧ N ≤ 10000 + i)
  case atStart => exact ⟨0, la, lb, 0, 0, d0, F0, rfl, rfl, rfl, rfl, P5, by omega⟩
  case round =>
    clear P5 F0 d0
    obtain ⟨i, la, lb, N, K, d, F, hik, rfl, rfl, rfl, P, hN⟩ := hrel
    by_cases hlt : i < n1
    · by_cases h50 : i < 50
      · obtain ⟨z, hz⟩ : ∃ z, l1[i]? = some z := ⟨_, List.getElem?_eq_getElem (by rw [L1.out]; exact hlt)⟩
        have S1 := H1.out.below P.out.ch.below0
        obtain ⟨b1, o1, rfl⟩ := S1.spot (by intro e; have := S1.1; rw [e] at this; simp at this; omega)
        have e1 := S1.at_ (j := i) (by rw [iv_get, hz]; rfl)
        have ZQ := hid (Q1.out z (List.mem_of_getElem? hz))
        have hn1 : n1 ≤ 9223372036854775807 := by have := S1.2.1; have := S1.2.2.1; unfold maxLen at this; omega
        have hlti : (i : Int) < n1 := by omega
        have h50i : (i : Int) < 50 := by omega
        have i0 : (0 : Int) ≤ i := by omega
        clear hz S1
        go_upto_if 59 with (fail)
        go_cut [16] (fun vn wc => wc = wr ∧ ∃ n, vn = .int .i64 n ∧ Hid (I64 n))
        case first =>
          by_cases hi2 : i < n2
          · obtain ⟨z2, hz2⟩ : ∃ z, l2[i]? = some z := ⟨_, List.getElem?_eq_getElem (by rw [L2.out]; exact hi2)⟩
            have S2 := H2.out.below P.out.ch.below0
            obtain ⟨b2, o2, rfl⟩ := S2.spot (by intro e; have := S2.1; rw [e] at this; simp at this; omega)
            have e2 := S2.at_ (j := i) (by rw [iv_get, hz2]; rfl)
            have ZQ2 := hid (Q2.out z2 (List.mem_of_getElem? hz2))
            have hi2i : (i : Int) < n2 := by omega
            clear hz2 S2
            go_wp2
            go_meet
            case rel => exact ⟨rfl, z2, rfl, ZQ2⟩
          · have hi2i : ¬ (i : Int) < n2 := by omega
            go_wp2
            go_meet
            case rel => exact ⟨rfl, 0, rfl, hid ⟨by omega, by omega⟩⟩
        case rest =>
          obtain ⟨rfl, n, rfl, NQ⟩ := hcut
          have t0 := Int.emod_nonneg z (by omega : (8 : Int) ≠ 0)
          have t1 := Int.emod_lt_of_pos z (by omega : (0 : Int) < 8)
          obtain ⟨k, hk⟩ : ∃ k : Nat, (k : Int) = z % 8 := ⟨(z % 8).toNat, by omega⟩
          have hk8 : k < 8 := by omega
          have HK := hid hk
          have hzq := ZQ.out
          clear t0 t1 hk
          go_upto_block 2 with (go_at_call 11; refine (within11_any z 8 _ (by omega) (by omega)).mono ?_; rintro e w2 ⟨rfl, rfl⟩; rw [← HK.out])
          clear hzq
          go_cut [9, 12, 15] (fun va vb vi wc => ∃ la lb N K d F, va = .pointer (some ⟨la, 0, none⟩) ∧ vb = .pointer (some ⟨lb, 0, none⟩) ∧ vi = .int .i64 i ∧ Hid (PS w wc p q x la lb N K d F) ∧ N ≤ 10001 + i)
          case first =>
            have h1N : N ≤ 1000000 := by omega
            rcases (by omega : (k = 0 ∨ k = 1 ∨ k = 2) ∨ k = 3 ∨ k = 4 ∨ k = 5 ∨ k = 6 ∨ k = 7) with hk | rfl | rfl | rfl | rfl | rfl
            · have hib : (i : Int) % 256 = i := by omega
              rcases hk with rfl | rfl | rfl
              all_goals as_aux_lemma =>
                go_upto_if 79 with (fail)
                go_cut [17] (fun v wd => Hid (Ch (fun _ => False) wc wd) ∧ ∃ a n c l, v = .slice a n c ∧ Hid (∀ w', Ch (fun k => k = p ∨ k = q ∨ k = la) wd w' → Sl w' 1 a n c (bv l)))
                case first =>
                  by_cases hi0 : i < n0
                  · obtain ⟨l, hl⟩ : ∃ l, l0[i]? = some l := ⟨_, List.getElem?_eq_getElem (by rw [L0.out]; exact hi0)⟩
                    have R0 := H0.out.below (P.out.ch.alloc (.cells #[.int .u8 i] 5)).below0
                    obtain ⟨b0, o0, rfl⟩ := R0.spot (by omega)
                    obtain ⟨a', c', e0, _⟩ := R0.at_ hl
                    obtain ⟨a'', c'', e0', s0⟩ := H0.out.at_ hl
                    have e0'' := (P.out.ch.alloc (.cells #[.int .u8 i] 5)).cell e0' id
                    have e00 := e0.symm.trans e0''
                    simp only [Option.some.injEq, Value.slice.injEq] at e00
                    obtain ⟨rfl, _, rfl⟩ := e00
                    have S0 := hid s0
                    clear e0' e0''
                    have hi0i : (i : Int) < n0 := by omega
                    clear hl R0 s0
                    go_wp2
                    go_meet
                    case rel => exact ⟨hid ((Ch.refl _ _).alloc _), _, _, _, l, rfl, hid (fun w' hc' => S0.out.below (P.out.stays ((Ch.refl _ _).alloc _) hc').below0)⟩
                  · have hi0i : ¬ (i : Int) < n0 := by omega
                    go_wp2
                    go_meet
                    case rel => exact ⟨hid ((Ch.refl _ _).alloc _), _, _, _, [UInt8.ofNat i], rfl, hid (by
                      have hq : i % 256 = i := by omega
                      have := Sl.lit wc #[.int .u8 i] 5 (by simp [maxLen])
                      have t2 : Sl (wc.alloc (.cells #[.int .u8 i] 5)) 1 (some ⟨wc.heap.size, 0, none⟩) 1 1 (bv [UInt8.ofNat i]) := by simpa [bv, hq] using this
                      intro w' hc'
                      exact t2.ch hc' (fun b hb => by cases hb; exact P.out.fresh))⟩
                case rest =>
                  obtain ⟨CD, a, m, c, l, rfl, S⟩ := hcut
                  by_cases hb : 100 < m
                  · have hbi : (100 : Int) < m := by omega
                    go_wp2
                    go_ret
                    exact ⟨rfl, P.out.ch.f CD.out⟩
                  · have hbi : ¬ (100 : Int) < m := by omega
                    have m1 : 0 + m ≤ maxLen := by unfold maxLen; omega
                    have m2 : (0 + m) * 1 ≤ 140737488355328 := by omega
                    obtain ⟨r, hr⟩ : ∃ r, r = d.log l := ⟨_, rfl⟩
                    obtain ⟨M, hM⟩ : ∃ M, M = (if r.2 = 0 then N + 1 else N) := ⟨_, rfl⟩
                    have hM1 : M ≤ N + 1 := by rw [hM]; split <;> omega
                    have HR := hid hr
                    have HM := hid hM
                    clear hr hM
                    go_wp2_with (first
                      | (at_builtin; refine wpList_app rfl _ _ _ _ rfl wc.heap.size 5 1 1 _ et_u8 _ 0 _ [] rfl (M0 wc) _ _ _ rfl ((S.out _ ((Ch.refl _ wc).alloc _)).src Try.underlying22 (bv_one _)) m1 m2 (by simp) ?_; intro a3 k3 w3 hO hS hC hN; rw [List.nil_append, Nat.zero_add] at hO; have O3 := hid hO; have C3 := hid hC.app_new; have P3 := hid ((P.out.f CD.out).f hC.app_new); clear hO hS hC hN)
                      | (go_at_call 20; refine (lappend_any p q la N K d a3 m k3 l _ P3.out.1.1.dk P3.out.2.1 (P3.out.away) O3.out.sl h1N).mono ?_; rw [← HR.out, ← HM.out]; rintro e w4 ⟨rfl, hd4, hl4, hc4⟩; have D4 := hid hd4; have L4 := hid hl4; have C4 := hid hc4; have R4 := hid (P3.out.one hc4); clear hd4 hl4 hc4)
                      | (go_at_call 26; refine (rlappend_any F x lb N K d a m c l _ R4.out.1 R4.out.2.1 P3.out.2.2.2.1.2 P3.out.2.2.2.2.2.1.2.2 (S.out _ ((C3.out.weaken (fun _ _ h => h.elim)).trans C4.out (fun _ _ h => h))) h1N).mono ?_; rw [← HR.out, ← HM.out]; rintro e w5 ⟨rfl, hr5, hl5, hc5⟩; have P5 := hid (P3.out.two C4.out D4.out L4.out hr5 hl5 hc5); clear hr5 hl5 hc5))
                    go_meet
                    case rel => exact ⟨la, lb, M, K, r.1, F, rfl, rfl, rfl, P5, by omega⟩
            · as_aux_lemma =>
                obtain ⟨r, hr⟩ : ∃ r, r = d.sync := ⟨_, rfl⟩
                obtain ⟨M, hM⟩ : ∃ M, M = (if r.2 = 0 then N else K) := ⟨_, rfl⟩
                have HR := hid hr
                have HM := hid hM
                clear hr hM
                go_wp2_with (first
                  | (go_at_call 23; refine (lsync_any p q la N K d _ P.out.1.1.dk P.out.2.1 (P.out.away)).mono ?_; rw [← HR.out, ← HM.out]; rintro e w4 ⟨rfl, hd4, hl4, hc4⟩; have D4 := hid hd4; have L4 := hid hl4; have C4 := hid hc4; have R4 := hid (P.out.one hc4); clear hd4 hl4 hc4)
                  | (go_at_call 27; refine (rlsync_any F x lb N K d _ R4.out.1 R4.out.2.1 P.out.2.2.2.1.2 P.out.2.2.2.2.2.1.2.2).mono ?_; rw [← HR.out, ← HM.out]; rintro e w5 ⟨rfl, hr5, hl5, hc5⟩; have P5 := hid (P.out.two C4.out D4.out L4.out hr5 hl5 hc5); clear hr5 hl5 hc5))
                go_meet
                case rel => exact ⟨la, lb, N, M, r.1, F, rfl, rfl, rfl, P5, by omega⟩
            · as_aux_lemma =>
                have t0 := Int.emod_nonneg n (by omega : (5 : Int) ≠ 0)
                have t1 := Int.emod_lt_of_pos n (by omega : (0 : Int) < 5)
                obtain ⟨m, hm⟩ : ∃ m : Int, m = n % 5 := ⟨_, rfl⟩
                rw [← hm] at t0 t1
                have HM := hid hm
                clear hm
                have nq := NQ.out
                go_wp2_with (first
                  | (go_at_call 11; refine (within11_any n 5 _ (by omega) (by omega)).mono ?_; rintro e w2 ⟨rfl, rfl⟩; rw [← HM.out])
                  | (go_at_call 24; refine (stop_any p q d m _ P.out.1.1.dk (by omega)).mono ?_; rintro e w4 ⟨rfl, hd4, hc4⟩; have D4 := hid hd4; have C4 := hid (ch3 (la := la) hc4); have L4 := hid (P.out.2.1.ch hc4 (P.out.away2)); have R4 := hid (P.out.one (ch3 (la := la) hc4)); clear hd4 hc4)
                  | (go_at_call 28; refine (rstop_any F x d m _ R4.out.1 (by omega)).mono ?_; rintro e w5 ⟨rfl, hr5, hc5⟩; have P5 := hid (P.out.two C4.out D4.out L4.out hr5 (R4.out.2.1.ch hc5 (P.out.away4)) (ch4 hc5)); clear hr5 hc5))
                go_meet
                case rel => exact ⟨la, lb, N, K, d.stop m, F, rfl, rfl, rfl, P5, by omega⟩
            · as_aux_lemma =>
                have OP := hid (open_live (d.crash n) rfl rfl)
                have hM : (recs (d.crash n).cont).1.length ≤ 10000 := crash_few P.out.1.1.dk n
                go_wp2_with (first
                  | (go_at_call 25; refine (crash_any p q d n _ P.out.1.1.dk).mono ?_; rintro e w4 ⟨rfl, hd4, hc4⟩; have D4 := hid hd4; have C4 := hid (ch3 (la := la) hc4); have L4 := hid (P.out.2.1.ch hc4 (P.out.away2)); have R4 := hid (P.out.one (ch3 (la := la) hc4)); clear hd4 hc4)
                  | (go_at_call 29; refine (rcrash_any F x d n _ R4.out.1).mono ?_; rintro e w5 ⟨rfl, hr5, hc5⟩; have P5 := hid (P.out.two C4.out D4.out L4.out hr5 (R4.out.2.1.ch hc5 (P.out.away4)) (ch4 hc5)); clear hr5 hc5)
                  | (go_at_call 16; refine (lopen_any p q _ _ P5.out.1.1.dk).mono ?_; unfold OpenPost; rw [OP.out]; rintro e w6 ⟨hd6, hc6, (⟨h, _⟩ | ⟨_, la2, a6, c6, rfl, hl6, ho6, hla⟩)⟩; (exact absurd rfl h); have D6 := hid hd6; have R6 := hid (P5.out.1.wide hc6); have L6 := hid hl6; have O6 := hid ho6; have C6 := hid hc6; clear hd6 hc6 hl6 ho6)
                  | (go_at_call 17; refine (ropen_any _ x _ _ R6.out).mono ?_; unfold ROpenPost; rw [OP.out]; rintro e w7 ⟨hr7, hc7, (⟨h, _⟩ | ⟨_, lb2, a7, c7, rfl, hl7, ho7, hlb⟩)⟩; (exact absurd rfl h); have P7 := hid (P5.out.1.opened C6.out D6.out L6.out hla hr7 hc7 hl7 hlb); have O7 := hid (O6.out.keep hc7 P5.out.1.mine); have Q7 := hid ho7; clear hr7 hc7 hl7 ho7)
                  | (go_at_call 18; refine (rows_any a6 _ c6 _ a7 c7 _ O7.out.rows Q7.out.rows).mono ?_; rintro e w8 ⟨rfl, hc8⟩; have P8 := hid (P7.out.f hc8); clear hc8))
                go_meet
                case rel => exact ⟨la2, lb2, _, _, _, _, rfl, rfl, rfl, P8, by omega⟩
            all_goals as_aux_lemma =>
              by_cases h0 : d.open.2 = 0
              · have OP := hid h0
                have hM : (recs d.cont).1.length ≤ 10000 := rec_few P.out.1.1.dk
                clear h0
                go_wp2_with (first
                  | (go_at_call 16; refine (lopen_any p q _ _ P.out.1.1.dk).mono ?_; unfold OpenPost; rw [OP.out]; rintro e w6 ⟨hd6, hc6, (⟨h, _⟩ | ⟨_, la2, a6, c6, rfl, hl6, ho6, hla⟩)⟩; (exact absurd rfl h); have D6 := hid hd6; have R6 := hid (P.out.1.wide hc6); have L6 := hid hl6; have O6 := hid ho6; have C6 := hid hc6; clear hd6 hc6 hl6 ho6)
                  | (go_at_call 17; refine (ropen_any _ x _ _ R6.out).mono ?_; unfold ROpenPost; rw [OP.out]; rintro e w7 ⟨hr7, hc7, (⟨h, _⟩ | ⟨_, lb2, a7, c7, rfl, hl7, ho7, hlb⟩)⟩; (exact absurd rfl h); have P7 := hid (P.out.1.opened C6.out D6.out L6.out hla hr7 hc7 hl7 hlb); have O7 := hid (O6.out.keep hc7 P.out.1.mine); have Q7 := hid ho7; clear hr7 hc7 hl7 ho7)
                  | (go_at_call 18; refine (rows_any a6 _ c6 _ a7 c7 _ O7.out.rows Q7.out.rows).mono ?_; rintro e w8 ⟨rfl, hc8⟩; have P8 := hid (P7.out.f hc8); clear hc8))
                go_meet
                case rel => exact ⟨la2, lb2, _, _, _, _, rfl, rfl, rfl, P8, by omega⟩
              · have OP := hid h0
                obtain ⟨r, hr⟩ : ∃ r, r = d.open := ⟨_, rfl⟩
                have HR := hid hr
                have hb : (r.2 == 0) = false := beq_eq_false_iff_ne.2 (by rw [hr]; exact h0)
                clear h0 hr
                go_wp2_with (first
                  | (go_at_call 16; refine (lopen_any p q _ _ P.out.1.1.dk).mono ?_; unfold OpenPost; rintro e w6 ⟨hd6, hc6, (⟨_, rfl⟩ | ⟨h, _⟩)⟩; rotate_left; (exact absurd h OP.out); have D6 := hid hd6; have R6 := hid (P.out.1.wide hc6); have C6 := hid hc6; rw [← HR.out]; clear hd6 hc6)
                  | (go_at_call 17; refine (ropen_any _ x _ _ R6.out).mono ?_; unfold ROpenPost; rintro e w7 ⟨hr7, hc7, (⟨_, rfl⟩ | ⟨h, _⟩)⟩; rotate_left; (exact absurd h OP.out); have P7 := hid (P.out.refused C6.out D6.out hr7 hc7); rw [← HR.out]; clear hr7 hc7)
                  | (go_at_call 18; refine (rows_any none 0 0 [] none 0 _ (RowsAt_nil _) (RowsAt_nil _)).mono ?_; rintro e w8 ⟨rfl, hc8⟩; have P8 := hid (P7.out.f hc8); clear hc8))
                go_meet
                case rel => exact ⟨la, lb, N, K, _, _, rfl, rfl, rfl, P8, by omega⟩
          case rest => as_aux_lemma =>
            obtain ⟨la, lb, N, K, d, F, rfl, rfl, rfl, P, hN⟩ := hcut
            have g1 : wc.drew.cell? ⟨lb, 1, none⟩ = some (.int .i64 N) := cell_blk P.out.2.2.1 1
            have g2 : wc.drew.cell? ⟨lb, 2, none⟩ = some (.int .i64 K) := cell_blk P.out.2.2.1 2
            go_upto_region 45 with (fail)
            refine wp_tail 19 (by kernel_rfl) (by kernel_rfl) ?_
            simp only [List.take_succ_cons, List.take_zero, List.drop_succ_cons, List.drop_zero]
            repeat still_step
            still_call (lcount_any la p N K _ (show LogAt wc.drew la p N K from P.out.2.1)).mono fun e w' h => ⟨h.1, h.2⟩
            repeat still_step
            still_call (lsafe_any la p N K _ (show LogAt wc.drew la p N K from P.out.2.1)).mono fun e w' h => ⟨h.1, h.2⟩
            repeat still_step
            refine wpStill_nil ?_
            go_wp2_with (go_at_call 19; refine (same_any p q F x d _ (show DiskAt wc.drew p q d from P.out.1.1.1) (show RefAt wc.drew F x d from P.out.1.1.2.1)).mono ?_; rintro e w6 ⟨rfl, hc6⟩; have P6 := hid (P.out.f ((Ch.refl _ wc).drew.f hc6)); clear hc6)
            go_roundg (49 - i)
            case measure => omega
            case rel => exact ⟨i + 1, la, lb, N, K, d, F, by omega, rfl, rfl, by go_num, P6, by omega⟩
      · have h50i : ¬ (i : Int) < 50 := by omega
        go_wp2
        go_ret
        exact ⟨rfl, P.out.ch⟩
    · have hlti : ¬ (i : Int) < n1 := by omega
      go_wp2
      go_ret
      exact ⟨rfl, P.out.ch⟩
end Go.Proofs.Ytfhbbmaimaabnaa

/- comitiaref11's log: Append. Written by gen_logs.py. -/
import Derived.Test.YtfhbbmaimaabnaaLogR
namespace Go.Proofs.Ytfhbbmaimaabnaa
open Go.RowKit Go.Cx Go.F64
set_option linter.unusedVariables false
set_option linter.unusedSimpArgs false
set_option maxRecDepth 100000 in
set_option maxHeartbeats 4000000 in
theorem rlappend_any (F : Nat → Prop) (x lb N K : Nat) (d : Dk) (a : Option Addr) (n c : Nat) (l : List UInt8) (w : World) (h : RefAt w F x d) (hl : LogRAt w lb x N K) (hF : F lb) (hne : lb ≠ x) (hs : Sl w 1 a n c (bv l)) (hN : N ≤ 1000000) :
    Calls Try.prog 26 #[.pointer (some ⟨lb, 0, none⟩), .slice a n c] w (RLPost F x lb (d.log l) (if (d.log l).2 = 0 then N + 1 else N) K w) := by
  have HD := hid h
  have HL := hid hl
  have NE := hid hne
  have HF := hid hF
  have HS := hid hs
  have hln : l.length = n := by have := hs.1; rw [bv_length] at this; omega
  have c0 : w.cell? ⟨lb, 0, none⟩ = some (.pointer (some ⟨x, 0, none⟩)) := cell_blk hl 0
  clear h hl hne hs hF
  obtain ⟨M, hM⟩ : ∃ M, M = (if (d.log l).2 = 0 then N + 1 else N) := ⟨_, rfl⟩
  rw [← hM]
  have HM := hid hM
  obtain ⟨rr, hrr⟩ : ∃ rr, rr = d.log l := ⟨_, rfl⟩
  rw [← hrr]
  have HRR := hid hrr
  clear hM hrr
  by_cases hbig : 16384 < n
  · have G : RLPost F x lb rr M K w (.returned (.int .i64 5)) w := by
      have e : d.log l = (d, 5) := by unfold Dk.log; rw [if_pos (by omega)]
      have hm := HM.out
      rw [e, if_neg (by simp)] at hm
      rw [HRR.out, e, hm]
      exact ⟨rfl, HD.out, HL.out, Ch.refl _ _⟩
    have HG := hid G
    have hbi : (16384 : Int) < (n : Nat) := by omega
    clear G hln hbig
    go_enter Try.func26, Try.ntmps26
    go_wp2
    go_ret
    exact HG.out
  · have e : rr = d.append (Cd.le8 (n : Nat) ++ l) := by rw [HRR.out]; unfold Dk.log; rw [if_neg (by omega), hln]
    have HR := hid e
    have hm := HM.out
    rw [← HRR.out] at hm
    have HM2 := hid hm
    have hbi : ¬ (16384 : Int) < (n : Nat) := by omega
    have m1 : 0 + 8 + n ≤ maxLen := by unfold maxLen; omega
    have m2 : (0 + 8 + n) * 1 ≤ 140737488355328 := by omega
    clear e hln hm hbig
    by_cases h0 : rr.2 = 0
    · have H0 := hid h0
      have hm := HM2.out
      rw [if_pos h0] at hm
      subst hm
      go_enter Try.func26, Try.ntmps26
      go_wp2
      refine wp_region_any (by kernel_rfl) ?_
      try (change wpAny _ _ _ _ _ _ _ (World.drew _))
      refine wpAny_take (i := 0) (v := ?_) rfl (by kernel_rfl) (by kernel_rfl) (by kernel_rfl) (fun _ _ _ h => h) (Or.inl ⟨by rfl, ?_⟩) ?_
      rotate_left
      · intro W_
        go_simp
        try with_reducible rfl
      refine wpAny_take (i := 1) (v := ?_) rfl (by kernel_rfl) (by kernel_rfl) (by kernel_rfl) (fun _ _ _ h => h) (Or.inl ⟨by rfl, ?_⟩) ?_
      rotate_left
      · intro W_
        go_simp
        try with_reducible rfl
      refine wpAny_take (i := 2) (v := ?_) rfl (by kernel_rfl) (by kernel_rfl) (by kernel_rfl) (fun _ _ _ h => h) (Or.inl ⟨by rfl, ?_⟩) ?_
      rotate_left
      · intro W_
        go_simp
        try with_reducible rfl
      refine wpAny_take (i := 4) (v := ?_) rfl (by kernel_rfl) (by kernel_rfl) (by kernel_rfl) (fun _ _ _ h => h) (Or.inl ⟨by rfl, ?_⟩) ?_
      rotate_left
      · intro W_
        go_simp
        try with_reducible rfl
      refine wpAny_take (i := 5) (v := ?_) rfl (by kernel_rfl) (by kernel_rfl) (by kernel_rfl) (fun _ _ _ h => h) (Or.inl ⟨by rfl, ?_⟩) ?_
      rotate_left
      · intro W_
        go_simp
        try with_reducible rfl
      refine wpAny_take (i := 7) (v := ?_) rfl (by kernel_rfl) (by kernel_rfl) (by kernel_rfl) (fun _ _ _ h => h) (Or.inl ⟨by rfl, ?_⟩) ?_
      rotate_left
      · intro W_
        go_simp
        try with_reducible rfl
      refine wpAny_ready (rs := [3, 6]) (by kernel_rfl) (by simp) ?_
      refine AllReady.cons rfl (fun K hK => ?_) ?_
      · go_simp
        refine hK _ _ ?_
        clear hK K
        refine wpAny_ready (rs := [6]) (by kernel_rfl) (by simp) ?_
        refine AllReady.cons rfl (fun K hK => ?_) ?_
        · go_simp
          go_wp2_with (go_at_call 45; refine (Cd.rint_any w.heap.size none 0 0 [] (n : Nat) w.drew (show Own _ w.heap.size 5 1 none 0 0 (bv []) from Own.nil _ _ _ _) (by omega) (show w.heap.size ≤ w.drew.heap.size from Nat.le_refl _)).mono ?_; rintro e w1 ⟨a1, c1, rfl, ha1⟩; have O1 := hid ha1.own; have C1 := hid (((Ch.refl (fun _ => False) w).drew).trans ha1.ch (fun i _ ⟨b, hb, _⟩ => by cases hb)); have x1 := C1.out.cell c0 id; clear ha1)
          try (refine hK _ _ ?_; clear hK K)
          refine wpAny_ready (rs := [8]) (by kernel_rfl) (by simp) ?_
          refine AllReady.cons rfl (fun K hK => ?_) ?_
          · refine step_app2 rfl _ _ _ _ rfl w.heap.size 5 1 1 _ et_u8 a1 (0 + 8) c1 _ rfl O1.out _ n (bv l) rfl ((HS.out.ch C1.out (fun _ _ => id)).src Try.underlying22 (bv_one _)) m1 m2 C1.out.size ?_
            intro a2 c2 w2 hO hC hN
            rw [List.nil_append, ← bv_append] at hO
            have O2 := hid hO
            have C2 := hid (C1.out.app_own O1.out (Nat.le_refl _) hC)
            have R2 := hid (HD.out.ch C2.out id (fun _ _ => id))
            have x2 := C2.out.cell c0 id
            clear hO hC hN
            refine hK _ _ ?_
            clear hK K
            refine wpAny_ready (rs := [9]) (by kernel_rfl) (by simp) ?_
            refine AllReady.cons rfl (fun K hK => ?_) ?_
            · go_simp
              go_wp2_with (go_at_call 15; refine (rappend_any F x d a2 _ c2 (Cd.le8 (n : Nat) ++ l) w2 R2.out O2.out.sl (by omega)).mono ?_; unfold RPost; rw [← HR.out, H0.out]; rintro e w3 ⟨rfl, hr3, hc3⟩; have D3 := hid hr3; have C3 := hid ((C2.out.weaken (fun _ _ h => h.elim)).trans hc3 (fun _ _ h => h)); have L3 := hid (HL.out.ch C3.out (fun h => by rcases h with h | h; exact NE.out h; exact h HF.out)); have y1 : w3.cell? ⟨lb, 1, none⟩ = some (.int .i64 N) := cell_blk L3.out 1; have z1 := frozen_blk L3.out 1; clear hr3 hc3)
              try (refine hK _ _ ?_; clear hK K)
              refine wpAny_take (i := 10) (v := ?_) rfl (by kernel_rfl) (by kernel_rfl) (by kernel_rfl) (fun _ _ _ h => h) (Or.inl ⟨by rfl, ?_⟩) ?_
              rotate_left
              · intro W_
                go_simp
                try with_reducible rfl
              refine wpAny_done (by kernel_rfl) ?_ _
              go_wp2
              go_ret
              unfold RLPost
              rw [H0.out]
              refine ⟨by first | rfl | (simp; done) | (simp; rfl), D3.out.blk HF.out NE.out _ _, L3.out.set 1 _ rfl, ?_⟩
              exact (C3.out.weaken (T := fun k => k = x ∨ k = lb ∨ ¬ F k) (fun _ _ h => by rcases h with h | h; exact .inl h; exact .inr (.inr h))).set (.inl (.inr (.inl rfl)))
            exact AllReady.nil
          exact AllReady.nil
        exact AllReady.nil
      refine AllReady.cons rfl (fun K hK => ?_) ?_
      · go_simp
        go_wp2_with (go_at_call 45; refine (Cd.rint_any w.heap.size none 0 0 [] (n : Nat) w.drew (show Own _ w.heap.size 5 1 none 0 0 (bv []) from Own.nil _ _ _ _) (by omega) (show w.heap.size ≤ w.drew.heap.size from Nat.le_refl _)).mono ?_; rintro e w1 ⟨a1, c1, rfl, ha1⟩; have O1 := hid ha1.own; have C1 := hid (((Ch.refl (fun _ => False) w).drew).trans ha1.ch (fun i _ ⟨b, hb, _⟩ => by cases hb)); have x1 := C1.out.cell c0 id; clear ha1)
        try (refine hK _ _ ?_; clear hK K)
        refine wpAny_ready (rs := [3, 8]) (by kernel_rfl) (by simp) ?_
        refine AllReady.cons rfl (fun K hK => ?_) ?_
        · go_simp
          refine hK _ _ ?_
          clear hK K
          refine wpAny_ready (rs := [8]) (by kernel_rfl) (by simp) ?_
          refine AllReady.cons rfl (fun K hK => ?_) ?_
          · refine step_app2 rfl _ _ _ _ rfl w.heap.size 5 1 1 _ et_u8 a1 (0 + 8) c1 _ rfl O1.out _ n (bv l) rfl ((HS.out.ch C1.out (fun _ _ => id)).src Try.underlying22 (bv_one _)) m1 m2 C1.out.size ?_
            intro a2 c2 w2 hO hC hN
            rw [List.nil_append, ← bv_append] at hO
            have O2 := hid hO
            have C2 := hid (C1.out.app_own O1.out (Nat.le_refl _) hC)
            have R2 := hid (HD.out.ch C2.out id (fun _ _ => id))
            have x2 := C2.out.cell c0 id
            clear hO hC hN
            refine hK _ _ ?_
            clear hK K
            refine wpAny_ready (rs := [9]) (by kernel_rfl) (by simp) ?_
            refine AllReady.cons rfl (fun K hK => ?_) ?_
            · go_simp
              go_wp2_with (go_at_call 15; refine (rappend_any F x d a2 _ c2 (Cd.le8 (n : Nat) ++ l) w2 R2.out O2.out.sl (by omega)).mono ?_; unfold RPost; rw [← HR.out, H0.out]; rintro e w3 ⟨rfl, hr3, hc3⟩; have D3 := hid hr3; have C3 := hid ((C2.out.weaken (fun _ _ h => h.elim)).trans hc3 (fun _ _ h => h)); have L3 := hid (HL.out.ch C3.out (fun h => by rcases h with h | h; exact NE.out h; exact h HF.out)); have y1 : w3.cell? ⟨lb, 1, none⟩ = some (.int .i64 N) := cell_blk L3.out 1; have z1 := frozen_blk L3.out 1; clear hr3 hc3)
              try (refine hK _ _ ?_; clear hK K)
              refine wpAny_take (i := 10) (v := ?_) rfl (by kernel_rfl) (by kernel_rfl) (by kernel_rfl) (fun _ _ _ h => h) (Or.inl ⟨by rfl, ?_⟩) ?_
              rotate_left
              · intro W_
                go_simp
                try with_reducible rfl
              refine wpAny_done (by kernel_rfl) ?_ _
              go_wp2
              go_ret
              unfold RLPost
              rw [H0.out]
              refine ⟨by first | rfl | (simp; done) | (simp; rfl), D3.out.blk HF.out NE.out _ _, L3.out.set 1 _ rfl, ?_⟩
              exact (C3.out.weaken (T := fun k => k = x ∨ k = lb ∨ ¬ F k) (fun _ _ h => by rcases h with h | h; exact .inl h; exact .inr (.inr h))).set (.inl (.inr (.inl rfl)))
            exact AllReady.nil
          exact AllReady.nil
        refine AllReady.cons rfl (fun K hK => ?_) ?_
        · refine step_app2 rfl _ _ _ _ rfl w.heap.size 5 1 1 _ et_u8 a1 (0 + 8) c1 _ rfl O1.out _ n (bv l) rfl ((HS.out.ch C1.out (fun _ _ => id)).src Try.underlying22 (bv_one _)) m1 m2 C1.out.size ?_
          intro a2 c2 w2 hO hC hN
          rw [List.nil_append, ← bv_append] at hO
          have O2 := hid hO
          have C2 := hid (C1.out.app_own O1.out (Nat.le_refl _) hC)
          have R2 := hid (HD.out.ch C2.out id (fun _ _ => id))
          have x2 := C2.out.cell c0 id
          clear hO hC hN
          refine hK _ _ ?_
          clear hK K
          refine wpAny_ready (rs := [3]) (by kernel_rfl) (by simp) ?_
          refine AllReady.cons rfl (fun K hK => ?_) ?_
          · go_simp
            refine hK _ _ ?_
            clear hK K
            refine wpAny_ready (rs := [9]) (by kernel_rfl) (by simp) ?_
            refine AllReady.cons rfl (fun K hK => ?_) ?_
            · go_simp
              go_wp2_with (go_at_call 15; refine (rappend_any F x d a2 _ c2 (Cd.le8 (n : Nat) ++ l) w2 R2.out O2.out.sl (by omega)).mono ?_; unfold RPost; rw [← HR.out, H0.out]; rintro e w3 ⟨rfl, hr3, hc3⟩; have D3 := hid hr3; have C3 := hid ((C2.out.weaken (fun _ _ h => h.elim)).trans hc3 (fun _ _ h => h)); have L3 := hid (HL.out.ch C3.out (fun h => by rcases h with h | h; exact NE.out h; exact h HF.out)); have y1 : w3.cell? ⟨lb, 1, none⟩ = some (.int .i64 N) := cell_blk L3.out 1; have z1 := frozen_blk L3.out 1; clear hr3 hc3)
              try (refine hK _ _ ?_; clear hK K)
              refine wpAny_take (i := 10) (v := ?_) rfl (by kernel_rfl) (by kernel_rfl) (by kernel_rfl) (fun _ _ _ h => h) (Or.inl ⟨by rfl, ?_⟩) ?_
              rotate_left
              · intro W_
                go_simp
                try with_reducible rfl
              refine wpAny_done (by kernel_rfl) ?_ _
              go_wp2
              go_ret
              unfold RLPost
              rw [H0.out]
              refine ⟨by first | rfl | (simp; done) | (simp; rfl), D3.out.blk HF.out NE.out _ _, L3.out.set 1 _ rfl, ?_⟩
              exact (C3.out.weaken (T := fun k => k = x ∨ k = lb ∨ ¬ F k) (fun _ _ h => by rcases h with h | h; exact .inl h; exact .inr (.inr h))).set (.inl (.inr (.inl rfl)))
            exact AllReady.nil
          exact AllReady.nil
        exact AllReady.nil
      exact AllReady.nil
    · have H0 := hid h0
      have hb : (rr.2 == 0) = false := beq_eq_false_iff_ne.2 h0
      have hm := HM2.out
      rw [if_neg h0] at hm
      have hm := hm.symm
      subst hm
      go_enter Try.func26, Try.ntmps26
      go_wp2
      refine wp_region_any (by kernel_rfl) ?_
      try (change wpAny _ _ _ _ _ _ _ (World.drew _))
      refine wpAny_take (i := 0) (v := ?_) rfl (by kernel_rfl) (by kernel_rfl) (by kernel_rfl) (fun _ _ _ h => h) (Or.inl ⟨by rfl, ?_⟩) ?_
      rotate_left
      · intro W_
        go_simp
        try with_reducible rfl
      refine wpAny_take (i := 1) (v := ?_) rfl (by kernel_rfl) (by kernel_rfl) (by kernel_rfl) (fun _ _ _ h => h) (Or.inl ⟨by rfl, ?_⟩) ?_
      rotate_left
      · intro W_
        go_simp
        try with_reducible rfl
      refine wpAny_take (i := 2) (v := ?_) rfl (by kernel_rfl) (by kernel_rfl) (by kernel_rfl) (fun _ _ _ h => h) (Or.inl ⟨by rfl, ?_⟩) ?_
      rotate_left
      · intro W_
        go_simp
        try with_reducible rfl
      refine wpAny_take (i := 4) (v := ?_) rfl (by kernel_rfl) (by kernel_rfl) (by kernel_rfl) (fun _ _ _ h => h) (Or.inl ⟨by rfl, ?_⟩) ?_
      rotate_left
      · intro W_
        go_simp
        try with_reducible rfl
      refine wpAny_take (i := 5) (v := ?_) rfl (by kernel_rfl) (by kernel_rfl) (by kernel_rfl) (fun _ _ _ h => h) (Or.inl ⟨by rfl, ?_⟩) ?_
      rotate_left
      · intro W_
        go_simp
        try with_reducible rfl
      refine wpAny_take (i := 7) (v := ?_) rfl (by kernel_rfl) (by kernel_rfl) (by kernel_rfl) (fun _ _ _ h => h) (Or.inl ⟨by rfl, ?_⟩) ?_
      rotate_left
      · intro W_
        go_simp
        try with_reducible rfl
      refine wpAny_ready (rs := [3, 6]) (by kernel_rfl) (by simp) ?_
      refine AllReady.cons rfl (fun K hK => ?_) ?_
      · go_simp
        refine hK _ _ ?_
        clear hK K
        refine wpAny_ready (rs := [6]) (by kernel_rfl) (by simp) ?_
        refine AllReady.cons rfl (fun K hK => ?_) ?_
        · go_simp
          go_wp2_with (go_at_call 45; refine (Cd.rint_any w.heap.size none 0 0 [] (n : Nat) w.drew (show Own _ w.heap.size 5 1 none 0 0 (bv []) from Own.nil _ _ _ _) (by omega) (show w.heap.size ≤ w.drew.heap.size from Nat.le_refl _)).mono ?_; rintro e w1 ⟨a1, c1, rfl, ha1⟩; have O1 := hid ha1.own; have C1 := hid (((Ch.refl (fun _ => False) w).drew).trans ha1.ch (fun i _ ⟨b, hb, _⟩ => by cases hb)); have x1 := C1.out.cell c0 id; clear ha1)
          try (refine hK _ _ ?_; clear hK K)
          refine wpAny_ready (rs := [8]) (by kernel_rfl) (by simp) ?_
          refine AllReady.cons rfl (fun K hK => ?_) ?_
          · refine step_app2 rfl _ _ _ _ rfl w.heap.size 5 1 1 _ et_u8 a1 (0 + 8) c1 _ rfl O1.out _ n (bv l) rfl ((HS.out.ch C1.out (fun _ _ => id)).src Try.underlying22 (bv_one _)) m1 m2 C1.out.size ?_
            intro a2 c2 w2 hO hC hN
            rw [List.nil_append, ← bv_append] at hO
            have O2 := hid hO
            have C2 := hid (C1.out.app_own O1.out (Nat.le_refl _) hC)
            have R2 := hid (HD.out.ch C2.out id (fun _ _ => id))
            have x2 := C2.out.cell c0 id
            clear hO hC hN
            refine hK _ _ ?_
            clear hK K
            refine wpAny_ready (rs := [9]) (by kernel_rfl) (by simp) ?_
            refine AllReady.cons rfl (fun K hK => ?_) ?_
            · go_simp
              go_wp2_with (go_at_call 15; refine (rappend_any F x d a2 _ c2 (Cd.le8 (n : Nat) ++ l) w2 R2.out O2.out.sl (by omega)).mono ?_; unfold RPost; rw [← HR.out]; rintro e w3 ⟨rfl, hr3, hc3⟩; have D3 := hid hr3; have C3 := hid ((C2.out.weaken (fun _ _ h => h.elim)).trans hc3 (fun _ _ h => h)); have L3 := hid (HL.out.ch C3.out (fun h => by rcases h with h | h; exact NE.out h; exact h HF.out)); have y1 : w3.cell? ⟨lb, 1, none⟩ = some (.int .i64 N) := cell_blk L3.out 1; have z1 := frozen_blk L3.out 1; clear hr3 hc3)
              try (refine hK _ _ ?_; clear hK K)
              refine wpAny_take (i := 10) (v := ?_) rfl (by kernel_rfl) (by kernel_rfl) (by kernel_rfl) (fun _ _ _ h => h) (Or.inl ⟨by rfl, ?_⟩) ?_
              rotate_left
              · intro W_
                go_simp
                try with_reducible rfl
              refine wpAny_done (by kernel_rfl) ?_ _
              go_wp2
              go_ret
              unfold RLPost
              exact ⟨by first | rfl | (simp; done) | (simp; rfl), D3.out, L3.out, C3.out.weaken (fun _ _ h => by rcases h with h | h; exact .inl h; exact .inr (.inr h))⟩
            exact AllReady.nil
          exact AllReady.nil
        exact AllReady.nil
      refine AllReady.cons rfl (fun K hK => ?_) ?_
      · go_simp
        go_wp2_with (go_at_call 45; refine (Cd.rint_any w.heap.size none 0 0 [] (n : Nat) w.drew (show Own _ w.heap.size 5 1 none 0 0 (bv []) from Own.nil _ _ _ _) (by omega) (show w.heap.size ≤ w.drew.heap.size from Nat.le_refl _)).mono ?_; rintro e w1 ⟨a1, c1, rfl, ha1⟩; have O1 := hid ha1.own; have C1 := hid (((Ch.refl (fun _ => False) w).drew).trans ha1.ch (fun i _ ⟨b, hb, _⟩ => by cases hb)); have x1 := C1.out.cell c0 id; clear ha1)
        try (refine hK _ _ ?_; clear hK K)
        refine wpAny_ready (rs := [3, 8]) (by kernel_rfl) (by simp) ?_
        refine AllReady.cons rfl (fun K hK => ?_) ?_
        · go_simp
          refine hK _ _ ?_
          clear hK K
          refine wpAny_ready (rs := [8]) (by kernel_rfl) (by simp) ?_
          refine AllReady.cons rfl (fun K hK => ?_) ?_
          · refine step_app2 rfl _ _ _ _ rfl w.heap.size 5 1 1 _ et_u8 a1 (0 + 8) c1 _ rfl O1.out _ n (bv l) rfl ((HS.out.ch C1.out (fun _ _ => id)).src Try.underlying22 (bv_one _)) m1 m2 C1.out.size ?_
            intro a2 c2 w2 hO hC hN
            rw [List.nil_append, ← bv_append] at hO
            have O2 := hid hO
            have C2 := hid (C1.out.app_own O1.out (Nat.le_refl _) hC)
            have R2 := hid (HD.out.ch C2.out id (fun _ _ => id))
            have x2 := C2.out.cell c0 id
            clear hO hC hN
            refine hK _ _ ?_
            clear hK K
            refine wpAny_ready (rs := [9]) (by kernel_rfl) (by simp) ?_
            refine AllReady.cons rfl (fun K hK => ?_) ?_
            · go_simp
              go_wp2_with (go_at_call 15; refine (rappend_any F x d a2 _ c2 (Cd.le8 (n : Nat) ++ l) w2 R2.out O2.out.sl (by omega)).mono ?_; unfold RPost; rw [← HR.out]; rintro e w3 ⟨rfl, hr3, hc3⟩; have D3 := hid hr3; have C3 := hid ((C2.out.weaken (fun _ _ h => h.elim)).trans hc3 (fun _ _ h => h)); have L3 := hid (HL.out.ch C3.out (fun h => by rcases h with h | h; exact NE.out h; exact h HF.out)); have y1 : w3.cell? ⟨lb, 1, none⟩ = some (.int .i64 N) := cell_blk L3.out 1; have z1 := frozen_blk L3.out 1; clear hr3 hc3)
              try (refine hK _ _ ?_; clear hK K)
              refine wpAny_take (i := 10) (v := ?_) rfl (by kernel_rfl) (by kernel_rfl) (by kernel_rfl) (fun _ _ _ h => h) (Or.inl ⟨by rfl, ?_⟩) ?_
              rotate_left
              · intro W_
                go_simp
                try with_reducible rfl
              refine wpAny_done (by kernel_rfl) ?_ _
              go_wp2
              go_ret
              unfold RLPost
              exact ⟨by first | rfl | (simp; done) | (simp; rfl), D3.out, L3.out, C3.out.weaken (fun _ _ h => by rcases h with h | h; exact .inl h; exact .inr (.inr h))⟩
            exact AllReady.nil
          exact AllReady.nil
        refine AllReady.cons rfl (fun K hK => ?_) ?_
        · refine step_app2 rfl _ _ _ _ rfl w.heap.size 5 1 1 _ et_u8 a1 (0 + 8) c1 _ rfl O1.out _ n (bv l) rfl ((HS.out.ch C1.out (fun _ _ => id)).src Try.underlying22 (bv_one _)) m1 m2 C1.out.size ?_
          intro a2 c2 w2 hO hC hN
          rw [List.nil_append, ← bv_append] at hO
          have O2 := hid hO
          have C2 := hid (C1.out.app_own O1.out (Nat.le_refl _) hC)
          have R2 := hid (HD.out.ch C2.out id (fun _ _ => id))
          have x2 := C2.out.cell c0 id
          clear hO hC hN
          refine hK _ _ ?_
          clear hK K
          refine wpAny_ready (rs := [3]) (by kernel_rfl) (by simp) ?_
          refine AllReady.cons rfl (fun K hK => ?_) ?_
          · go_simp
            refine hK _ _ ?_
            clear hK K
            refine wpAny_ready (rs := [9]) (by kernel_rfl) (by simp) ?_
            refine AllReady.cons rfl (fun K hK => ?_) ?_
            · go_simp
              go_wp2_with (go_at_call 15; refine (rappend_any F x d a2 _ c2 (Cd.le8 (n : Nat) ++ l) w2 R2.out O2.out.sl (by omega)).mono ?_; unfold RPost; rw [← HR.out]; rintro e w3 ⟨rfl, hr3, hc3⟩; have D3 := hid hr3; have C3 := hid ((C2.out.weaken (fun _ _ h => h.elim)).trans hc3 (fun _ _ h => h)); have L3 := hid (HL.out.ch C3.out (fun h => by rcases h with h | h; exact NE.out h; exact h HF.out)); have y1 : w3.cell? ⟨lb, 1, none⟩ = some (.int .i64 N) := cell_blk L3.out 1; have z1 := frozen_blk L3.out 1; clear hr3 hc3)
              try (refine hK _ _ ?_; clear hK K)
              refine wpAny_take (i := 10) (v := ?_) rfl (by kernel_rfl) (by kernel_rfl) (by kernel_rfl) (fun _ _ _ h => h) (Or.inl ⟨by rfl, ?_⟩) ?_
              rotate_left
              · intro W_
                go_simp
                try with_reducible rfl
              refine wpAny_done (by kernel_rfl) ?_ _
              go_wp2
              go_ret
              unfold RLPost
              exact ⟨by first | rfl | (simp; done) | (simp; rfl), D3.out, L3.out, C3.out.weaken (fun _ _ h => by rcases h with h | h; exact .inl h; exact .inr (.inr h))⟩
            exact AllReady.nil
          exact AllReady.nil
        exact AllReady.nil
      exact AllReady.nil
end Go.Proofs.Ytfhbbmaimaabnaa

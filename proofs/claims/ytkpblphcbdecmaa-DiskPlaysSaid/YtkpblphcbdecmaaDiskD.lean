/- DiskPlays: an act at both disks, and the law. Written by gen_diskd.py. -/
import Derived.Test.YtkpblphcbdecmaaDiskP
import Derived.Deep.Cut
namespace Go.Proofs.Ytkpblphcbdecmaa
open Go.RowKit Go.Cx Go.F64
set_option linter.unusedVariables false
set_option linter.unusedSimpArgs false

/-- What turns while both disks are at work. -/
def Bo (p q s x : Nat) (k : Nat) : Prop := k = p ∨ k = q ∨ k = x ∨ s ≤ k
theorem _root_.Go.Cx.Ch.dsk {p q s x : Nat} {w w1 w2 : World} (h : Ch (fun _ => False) w w1) (hp : p < s ∧ q < s ∧ x < s ∧ p ≠ x ∧ q ≠ x) (k : Ch (fun k => k = p ∨ k = q) w1 w2) : Ch (Bo p q s x) w w2 :=
  (h.weaken fun _ _ h => h.elim).trans k (fun i _ h => by rcases h with h | h; exact .inl h; exact .inr (.inl h))
theorem _root_.Go.Cx.Ch.rsk {p q s x : Nat} {w w1 w2 : World} (h : Ch (Bo p q s x) w w1) (k : Ch (fun k => k = x ∨ s ≤ k) w1 w2) : Ch (Bo p q s x) w w2 :=
  h.trans k (fun i _ h => .inr (.inr h))
theorem _root_.Go.Cx.Ch.all {p q s x : Nat} {w w1 w2 : World} (h : Ch (fun _ => False) w w1) (k : Ch (Bo p q s x) w1 w2) : Ch (Bo p q s x) w w2 :=
  (h.weaken fun _ _ h => h.elim).trans k (fun i _ h => h)
theorem refdsk {p q s x : Nat} {w w' : World} {d : Dk} (h : RefAt w s x d) (hp : p < s ∧ q < s ∧ x < s ∧ p ≠ x ∧ q ≠ x) (hc : Ch (fun k => k = p ∨ k = q) w w') : RefAt w' s x d :=
  h.ch hc (fun h => by rcases h with h | h <;> omega) (fun k hk h => by rcases h with h | h <;> omega)
theorem diskrsk {p q s x : Nat} {w w' : World} {d : Dk} (h : DiskAt w p q d) (hp : p < s ∧ q < s ∧ x < s ∧ p ≠ x ∧ q ≠ x) (hc : Ch (fun k => k = x ∨ s ≤ k) w w') : DiskAt w' p q d :=
  h.ch hc (fun h => by rcases h with h | h <;> omega) (fun h => by rcases h with h | h <;> omega)
theorem cdsk {p q s x g i : Nat} {w w' : World} {v : Value} (hp : p < s ∧ q < s ∧ x < s ∧ p ≠ x ∧ q ≠ x) (hg : s ≤ g) (hc : Ch (fun k => k = p ∨ k = q) w w') (h : w.cell? ⟨g, i, none⟩ = some v) : w'.cell? ⟨g, i, none⟩ = some v :=
  hc.cell h (fun h => by rcases h with h | h <;> (dsimp only at h; omega))
def DoPost (p q s x : Nat) (w : World) (e : Ending) (w' : World) : Prop :=
  e = .returned (.bool true) ∧ ∃ d', DiskAt w' p q d' ∧ RefAt w' s x d' ∧ Ch (Bo p q s x) w w'
theorem rebase2 {P : Program} {c : Code} {Q : Exit → Go.Act → World → Prop} {a : Go.Act} {w : World} {R : World → Prop} (h : R w) (k : ∀ w1, R w1 → c.wp P Q a w1) : c.wp P Q a w := k w h

set_option maxRecDepth 100000 in
set_option maxHeartbeats 4000000 in
theorem do_any (z : Ac) (p q s x : Nat) (d : Dk) (w : World) (hd : DiskAt w p q d) (hr : RefAt w s x d) (hp : p < s ∧ q < s ∧ x < s ∧ p ≠ x ∧ q ≠ x) (hs : s ≤ w.heap.size) (hm60 : z.m ≤ 60) (hzn : I64 z.n)
    (hsl : ∀ w', Ch (Bo p q s x) w w' → Sl w' 1 z.a z.m z.c (bv z.l)) :
    Calls Try.prog 22 #[.agg #[.int .i64 z.k, .int .i64 z.n, .slice z.a z.m z.c], .pointer (some ⟨p, 0, none⟩), .pointer (some ⟨x, 0, none⟩)] w (DoPost p q s x w) := by
  have HD := hid hd
  have HR := hid hr
  have HS := hid hsl
  have PP := hid hp
  have hm : z.m ≤ 1000000 := by omega
  have m1 : 0 + z.m ≤ maxLen := by unfold maxLen; omega
  have m2 : (0 + z.m) * 1 ≤ 140737488355328 := by omega
  have t0 := Int.emod_nonneg z.k (by omega : (9 : Int) ≠ 0)
  have t1 := Int.emod_lt_of_pos z.k (by omega : (0 : Int) < 9)
  have t2 := Int.emod_nonneg z.n (by omega : (6 : Int) ≠ 0)
  have t3 := Int.emod_lt_of_pos z.n (by omega : (0 : Int) < 6)
  obtain ⟨v, hv⟩ : ∃ v, v = z.k % 9 := ⟨_, rfl⟩
  rw [← hv] at t0 t1
  have HV := hid hv
  clear hd hr hsl hp hv
  go_enter Try.func22, Try.ntmps22
  go_upto_region 1 with (fail)
  refine rebase2 (R := fun w1 => Ch (fun _ => False) w w1 ∧ w1.heap[w.heap.size]? = some (.cells #[.int .i64 z.k, .int .i64 z.n, .slice z.a z.m z.c] 47 (0, 0))) ⟨(Ch.refl _ w).alloc _, alloc_blk_new _ rfl⟩ ?_
  rintro w1 ⟨hc1, hb⟩
  obtain ⟨g, hg⟩ : ∃ g, g = w.heap.size := ⟨_, rfl⟩
  rw [← hg] at hb ⊢
  have c0 : w1.cell? ⟨g, 0, none⟩ = some (.int .i64 z.k) := cell_blk hb 0
  have c1 : w1.cell? ⟨g, 1, none⟩ = some (.int .i64 z.n) := cell_blk hb 1
  have c2 : w1.cell? ⟨g, 2, none⟩ = some (.slice z.a z.m z.c) := cell_blk hb 2
  have GG := hid (show s ≤ g by omega)
  have C1 := hid hc1
  have DD := hid (HD.out.ch hc1 id id)
  have RR := hid (HR.out.ch hc1 id (fun _ _ => id))
  have SLA := hid (HS.out w1 (hc1.weaken fun _ _ h => h.elim))
  have SLB := hid (fun w' h => HS.out w' (hc1.all h))
  have HA := hid (((Ch.refl (fun _ => False) w1).alloc (.cells #[] 5)).drew)
  have g1 := HA.out.cell c2 id
  clear hb hc1 hg hs
  obtain ⟨ax, cx, x0, x1, x2, x3, x4, f0, f1, f3, f4, slx, hx, hsx, hcx⟩ := RR.out.raw.open_
  clear slx
  have b3 : d.cont.length ≤ 65536 := by have h1 := RR.out.wf.h2; have h2 := RR.out.wf.h3; omega
  go_upto_region 2 with (go_at_call 17; refine (within10_any z.k 9 _ (by omega) (by omega)).mono ?_; rintro e w5 ⟨rfl, rfl⟩; rw [← HV.out])
  have hcase : v = 0 ∨ v = 1 ∨ v = 2 ∨ v = 3 ∨ v = 4 ∨ v = 5 ∨ v = 6 ∨ v = 7 ∨ v = 8 := by omega
  clear t0 t1
  rcases hcase with h | h | h | h | h | h | h | h | h <;> subst h
  case inl =>
    go_wp2
    refine wp_region_any (by kernel_rfl) ?_
    try (change wpAny _ _ _ _ _ _ _ (World.drew _))
    refine wpAny_take (i := 0) (v := ?_) rfl (by kernel_rfl) (by kernel_rfl) (by kernel_rfl) (fun _ _ _ h => h) (Or.inl ⟨by rfl, ?_⟩) ?_
    rotate_left
    · intro W_
      go_simp
      try with_reducible rfl
    refine wpAny_take (i := 2) (v := ?_) rfl (by kernel_rfl) (by kernel_rfl) (by kernel_rfl) (fun _ _ _ h => h) (Or.inl ⟨by rfl, ?_⟩) ?_
    rotate_left
    · intro W_
      go_simp
      try with_reducible rfl
    refine wpAny_take (i := 6) (v := ?_) rfl (by kernel_rfl) (by kernel_rfl) (by kernel_rfl) (fun _ _ _ h => h) (Or.inl ⟨by rfl, ?_⟩) ?_
    rotate_left
    · intro W_
      go_simp
      try with_reducible rfl
    refine wpAny_take (i := 7) (v := ?_) rfl (by kernel_rfl) (by kernel_rfl) (by kernel_rfl) (fun _ _ _ h => h) (Or.inl ⟨by rfl, ?_⟩) ?_
    rotate_left
    · intro W_
      go_simp
      try with_reducible rfl
    refine wpAny_ready (rs := [1, 3, 8]) (by kernel_rfl) (by simp) ?_
    refine AllReady.cons rfl (fun K hK => ?_) ?_
    · go_simp
      refine hK _ _ ?_
      clear hK K
      refine wpAny_ready (rs := [3, 8]) (by kernel_rfl) (by simp) ?_
      refine AllReady.cons rfl (fun K hK => ?_) ?_
      · go_simp
        refine hK _ _ ?_
        clear hK K
        refine wpAny_ready (rs := [4, 8]) (by kernel_rfl) (by simp) ?_
        refine AllReady.cons rfl (fun K hK => ?_) ?_
        · refine step_app2 rfl _ _ _ _ rfl w1.heap.size 5 1 1 _ et_u8 _ 0 _ [] rfl ((M0 w1).drew) _ _ _ rfl ((SLA.out.ch HA.out (fun _ _ => id)).src Try.underlying27 (bv_one _)) m1 m2 (by simp) ?_
          intro a2 k2 w2 hO hC hN
          rw [List.nil_append, Nat.zero_add] at hO
          have C2 := hid (HA.out.trans hC (fun i hi ⟨b, hb, he⟩ => by cases hb; have : w1.heap.size = i := he; omega))
          have O2 := hid hO
          have D2 := hid (DD.out.ch C2.out id id)
          have R2 := hid (RR.out.ch C2.out id (fun _ _ => id))
          have g2 := C2.out.cell c2 id
          clear hO hC hN
          refine hK _ _ ?_
          clear hK K
          refine wpAny_ready (rs := [5, 8]) (by kernel_rfl) (by simp) ?_
          refine AllReady.cons rfl (fun K hK => ?_) ?_
          · go_simp
            go_wp2_with (go_at_call 12; refine (append_any p q d _ _ _ z.l _ D2.out O2.out.sl).mono ?_; rintro e w3 ⟨rfl, hd3, hc3⟩; have D3 := hid hd3; have C3 := hid (C2.out.dsk PP.out hc3); have R3 := hid (refdsk R2.out PP.out hc3); have g3 := cdsk PP.out GG.out hc3 g2; clear hd3 hc3)
            try (refine hK _ _ ?_; clear hK K)
            refine wpAny_ready (rs := [8]) (by kernel_rfl) (by simp) ?_
            refine AllReady.cons rfl (fun K hK => ?_) ?_
            · go_simp
              refine hK _ _ ?_
              clear hK K
              refine wpAny_ready (rs := [9]) (by kernel_rfl) (by simp) ?_
              refine AllReady.cons rfl (fun K hK => ?_) ?_
              · go_simp
                go_wp2_with (go_at_call 28; refine (rappend_any s x d _ _ _ z.l _ R3.out (SLB.out _ C3.out) hm).mono ?_; rintro e w4 ⟨rfl, hr4, hc4⟩; have R4 := hid hr4; have D4 := hid (diskrsk D3.out PP.out hc4); have C4 := hid (C3.out.rsk hc4); clear hr4 hc4)
                try (refine hK _ _ ?_; clear hK K)
                refine wpAny_take (i := 10) (v := ?_) rfl (by kernel_rfl) (by kernel_rfl) (by kernel_rfl) (fun _ _ _ h => h) (Or.inl ⟨by rfl, ?_⟩) ?_
                rotate_left
                · intro W_
                  go_simp
                  try with_reducible rfl
                refine wpAny_take (i := 11) (v := ?_) rfl (by kernel_rfl) (by kernel_rfl) (by kernel_rfl) (fun _ _ _ h => h) (Or.inl ⟨by rfl, ?_⟩) ?_
                rotate_left
                · intro W_
                  go_simp
                  try with_reducible rfl
                refine wpAny_done (by kernel_rfl) ?_ _
                go_wp2
                go_ret
                exact ⟨by first | rfl | (simp; done) | (simp; rfl), _, D4.out, R4.out, C1.out.all C4.out⟩
              exact AllReady.nil
            exact AllReady.nil
          refine AllReady.cons rfl (fun K hK => ?_) ?_
          · go_simp
            refine hK _ _ ?_
            clear hK K
            refine wpAny_ready (rs := [5]) (by kernel_rfl) (by simp) ?_
            refine AllReady.cons rfl (fun K hK => ?_) ?_
            · go_simp
              go_wp2_with (go_at_call 12; refine (append_any p q d _ _ _ z.l _ D2.out O2.out.sl).mono ?_; rintro e w3 ⟨rfl, hd3, hc3⟩; have D3 := hid hd3; have C3 := hid (C2.out.dsk PP.out hc3); have R3 := hid (refdsk R2.out PP.out hc3); have g3 := cdsk PP.out GG.out hc3 g2; clear hd3 hc3)
              try (refine hK _ _ ?_; clear hK K)
              refine wpAny_ready (rs := [9]) (by kernel_rfl) (by simp) ?_
              refine AllReady.cons rfl (fun K hK => ?_) ?_
              · go_simp
                go_wp2_with (go_at_call 28; refine (rappend_any s x d _ _ _ z.l _ R3.out (SLB.out _ C3.out) hm).mono ?_; rintro e w4 ⟨rfl, hr4, hc4⟩; have R4 := hid hr4; have D4 := hid (diskrsk D3.out PP.out hc4); have C4 := hid (C3.out.rsk hc4); clear hr4 hc4)
                try (refine hK _ _ ?_; clear hK K)
                refine wpAny_take (i := 10) (v := ?_) rfl (by kernel_rfl) (by kernel_rfl) (by kernel_rfl) (fun _ _ _ h => h) (Or.inl ⟨by rfl, ?_⟩) ?_
                rotate_left
                · intro W_
                  go_simp
                  try with_reducible rfl
                refine wpAny_take (i := 11) (v := ?_) rfl (by kernel_rfl) (by kernel_rfl) (by kernel_rfl) (fun _ _ _ h => h) (Or.inl ⟨by rfl, ?_⟩) ?_
                rotate_left
                · intro W_
                  go_simp
                  try with_reducible rfl
                refine wpAny_done (by kernel_rfl) ?_ _
                go_wp2
                go_ret
                exact ⟨by first | rfl | (simp; done) | (simp; rfl), _, D4.out, R4.out, C1.out.all C4.out⟩
              exact AllReady.nil
            exact AllReady.nil
          exact AllReady.nil
        refine AllReady.cons rfl (fun K hK => ?_) ?_
        · go_simp
          refine hK _ _ ?_
          clear hK K
          refine wpAny_ready (rs := [4]) (by kernel_rfl) (by simp) ?_
          refine AllReady.cons rfl (fun K hK => ?_) ?_
          · refine step_app2 rfl _ _ _ _ rfl w1.heap.size 5 1 1 _ et_u8 _ 0 _ [] rfl ((M0 w1).drew) _ _ _ rfl ((SLA.out.ch HA.out (fun _ _ => id)).src Try.underlying27 (bv_one _)) m1 m2 (by simp) ?_
            intro a2 k2 w2 hO hC hN
            rw [List.nil_append, Nat.zero_add] at hO
            have C2 := hid (HA.out.trans hC (fun i hi ⟨b, hb, he⟩ => by cases hb; have : w1.heap.size = i := he; omega))
            have O2 := hid hO
            have D2 := hid (DD.out.ch C2.out id id)
            have R2 := hid (RR.out.ch C2.out id (fun _ _ => id))
            have g2 := C2.out.cell c2 id
            clear hO hC hN
            refine hK _ _ ?_
            clear hK K
            refine wpAny_ready (rs := [5]) (by kernel_rfl) (by simp) ?_
            refine AllReady.cons rfl (fun K hK => ?_) ?_
            · go_simp
              go_wp2_with (go_at_call 12; refine (append_any p q d _ _ _ z.l _ D2.out O2.out.sl).mono ?_; rintro e w3 ⟨rfl, hd3, hc3⟩; have D3 := hid hd3; have C3 := hid (C2.out.dsk PP.out hc3); have R3 := hid (refdsk R2.out PP.out hc3); have g3 := cdsk PP.out GG.out hc3 g2; clear hd3 hc3)
              try (refine hK _ _ ?_; clear hK K)
              refine wpAny_ready (rs := [9]) (by kernel_rfl) (by simp) ?_
              refine AllReady.cons rfl (fun K hK => ?_) ?_
              · go_simp
                go_wp2_with (go_at_call 28; refine (rappend_any s x d _ _ _ z.l _ R3.out (SLB.out _ C3.out) hm).mono ?_; rintro e w4 ⟨rfl, hr4, hc4⟩; have R4 := hid hr4; have D4 := hid (diskrsk D3.out PP.out hc4); have C4 := hid (C3.out.rsk hc4); clear hr4 hc4)
                try (refine hK _ _ ?_; clear hK K)
                refine wpAny_take (i := 10) (v := ?_) rfl (by kernel_rfl) (by kernel_rfl) (by kernel_rfl) (fun _ _ _ h => h) (Or.inl ⟨by rfl, ?_⟩) ?_
                rotate_left
                · intro W_
                  go_simp
                  try with_reducible rfl
                refine wpAny_take (i := 11) (v := ?_) rfl (by kernel_rfl) (by kernel_rfl) (by kernel_rfl) (fun _ _ _ h => h) (Or.inl ⟨by rfl, ?_⟩) ?_
                rotate_left
                · intro W_
                  go_simp
                  try with_reducible rfl
                refine wpAny_done (by kernel_rfl) ?_ _
                go_wp2
                go_ret
                exact ⟨by first | rfl | (simp; done) | (simp; rfl), _, D4.out, R4.out, C1.out.all C4.out⟩
              exact AllReady.nil
            exact AllReady.nil
          exact AllReady.nil
        exact AllReady.nil
      refine AllReady.cons rfl (fun K hK => ?_) ?_
      · go_simp
        refine hK _ _ ?_
        clear hK K
        refine wpAny_ready (rs := [3]) (by kernel_rfl) (by simp) ?_
        refine AllReady.cons rfl (fun K hK => ?_) ?_
        · go_simp
          refine hK _ _ ?_
          clear hK K
          refine wpAny_ready (rs := [4]) (by kernel_rfl) (by simp) ?_
          refine AllReady.cons rfl (fun K hK => ?_) ?_
          · refine step_app2 rfl _ _ _ _ rfl w1.heap.size 5 1 1 _ et_u8 _ 0 _ [] rfl ((M0 w1).drew) _ _ _ rfl ((SLA.out.ch HA.out (fun _ _ => id)).src Try.underlying27 (bv_one _)) m1 m2 (by simp) ?_
            intro a2 k2 w2 hO hC hN
            rw [List.nil_append, Nat.zero_add] at hO
            have C2 := hid (HA.out.trans hC (fun i hi ⟨b, hb, he⟩ => by cases hb; have : w1.heap.size = i := he; omega))
            have O2 := hid hO
            have D2 := hid (DD.out.ch C2.out id id)
            have R2 := hid (RR.out.ch C2.out id (fun _ _ => id))
            have g2 := C2.out.cell c2 id
            clear hO hC hN
            refine hK _ _ ?_
            clear hK K
            refine wpAny_ready (rs := [5]) (by kernel_rfl) (by simp) ?_
            refine AllReady.cons rfl (fun K hK => ?_) ?_
            · go_simp
              go_wp2_with (go_at_call 12; refine (append_any p q d _ _ _ z.l _ D2.out O2.out.sl).mono ?_; rintro e w3 ⟨rfl, hd3, hc3⟩; have D3 := hid hd3; have C3 := hid (C2.out.dsk PP.out hc3); have R3 := hid (refdsk R2.out PP.out hc3); have g3 := cdsk PP.out GG.out hc3 g2; clear hd3 hc3)
              try (refine hK _ _ ?_; clear hK K)
              refine wpAny_ready (rs := [9]) (by kernel_rfl) (by simp) ?_
              refine AllReady.cons rfl (fun K hK => ?_) ?_
              · go_simp
                go_wp2_with (go_at_call 28; refine (rappend_any s x d _ _ _ z.l _ R3.out (SLB.out _ C3.out) hm).mono ?_; rintro e w4 ⟨rfl, hr4, hc4⟩; have R4 := hid hr4; have D4 := hid (diskrsk D3.out PP.out hc4); have C4 := hid (C3.out.rsk hc4); clear hr4 hc4)
                try (refine hK _ _ ?_; clear hK K)
                refine wpAny_take (i := 10) (v := ?_) rfl (by kernel_rfl) (by kernel_rfl) (by kernel_rfl) (fun _ _ _ h => h) (Or.inl ⟨by rfl, ?_⟩) ?_
                rotate_left
                · intro W_
                  go_simp
                  try with_reducible rfl
                refine wpAny_take (i := 11) (v := ?_) rfl (by kernel_rfl) (by kernel_rfl) (by kernel_rfl) (fun _ _ _ h => h) (Or.inl ⟨by rfl, ?_⟩) ?_
                rotate_left
                · intro W_
                  go_simp
                  try with_reducible rfl
                refine wpAny_done (by kernel_rfl) ?_ _
                go_wp2
                go_ret
                exact ⟨by first | rfl | (simp; done) | (simp; rfl), _, D4.out, R4.out, C1.out.all C4.out⟩
              exact AllReady.nil
            exact AllReady.nil
          exact AllReady.nil
        exact AllReady.nil
      exact AllReady.nil
    refine AllReady.cons rfl (fun K hK => ?_) ?_
    · go_simp
      refine hK _ _ ?_
      clear hK K
      refine wpAny_ready (rs := [1, 8]) (by kernel_rfl) (by simp) ?_
      refine AllReady.cons rfl (fun K hK => ?_) ?_
      · go_simp
        refine hK _ _ ?_
        clear hK K
        refine wpAny_ready (rs := [4, 8]) (by kernel_rfl) (by simp) ?_
        refine AllReady.cons rfl (fun K hK => ?_) ?_
        · refine step_app2 rfl _ _ _ _ rfl w1.heap.size 5 1 1 _ et_u8 _ 0 _ [] rfl ((M0 w1).drew) _ _ _ rfl ((SLA.out.ch HA.out (fun _ _ => id)).src Try.underlying27 (bv_one _)) m1 m2 (by simp) ?_
          intro a2 k2 w2 hO hC hN
          rw [List.nil_append, Nat.zero_add] at hO
          have C2 := hid (HA.out.trans hC (fun i hi ⟨b, hb, he⟩ => by cases hb; have : w1.heap.size = i := he; omega))
          have O2 := hid hO
          have D2 := hid (DD.out.ch C2.out id id)
          have R2 := hid (RR.out.ch C2.out id (fun _ _ => id))
          have g2 := C2.out.cell c2 id
          clear hO hC hN
          refine hK _ _ ?_
          clear hK K
          refine wpAny_ready (rs := [5, 8]) (by kernel_rfl) (by simp) ?_
          refine AllReady.cons rfl (fun K hK => ?_) ?_
          · go_simp
            go_wp2_with (go_at_call 12; refine (append_any p q d _ _ _ z.l _ D2.out O2.out.sl).mono ?_; rintro e w3 ⟨rfl, hd3, hc3⟩; have D3 := hid hd3; have C3 := hid (C2.out.dsk PP.out hc3); have R3 := hid (refdsk R2.out PP.out hc3); have g3 := cdsk PP.out GG.out hc3 g2; clear hd3 hc3)
            try (refine hK _ _ ?_; clear hK K)
            refine wpAny_ready (rs := [8]) (by kernel_rfl) (by simp) ?_
            refine AllReady.cons rfl (fun K hK => ?_) ?_
            · go_simp
              refine hK _ _ ?_
              clear hK K
              refine wpAny_ready (rs := [9]) (by kernel_rfl) (by simp) ?_
              refine AllReady.cons rfl (fun K hK => ?_) ?_
              · go_simp
                go_wp2_with (go_at_call 28; refine (rappend_any s x d _ _ _ z.l _ R3.out (SLB.out _ C3.out) hm).mono ?_; rintro e w4 ⟨rfl, hr4, hc4⟩; have R4 := hid hr4; have D4 := hid (diskrsk D3.out PP.out hc4); have C4 := hid (C3.out.rsk hc4); clear hr4 hc4)
                try (refine hK _ _ ?_; clear hK K)
                refine wpAny_take (i := 10) (v := ?_) rfl (by kernel_rfl) (by kernel_rfl) (by kernel_rfl) (fun _ _ _ h => h) (Or.inl ⟨by rfl, ?_⟩) ?_
                rotate_left
                · intro W_
                  go_simp
                  try with_reducible rfl
                refine wpAny_take (i := 11) (v := ?_) rfl (by kernel_rfl) (by kernel_rfl) (by kernel_rfl) (fun _ _ _ h => h) (Or.inl ⟨by rfl, ?_⟩) ?_
                rotate_left
                · intro W_
                  go_simp
                  try with_reducible rfl
                refine wpAny_done (by kernel_rfl) ?_ _
                go_wp2
                go_ret
                exact ⟨by first | rfl | (simp; done) | (simp; rfl), _, D4.out, R4.out, C1.out.all C4.out⟩
              exact AllReady.nil
            exact AllReady.nil
          refine AllReady.cons rfl (fun K hK => ?_) ?_
          · go_simp
            refine hK _ _ ?_
            clear hK K
            refine wpAny_ready (rs := [5]) (by kernel_rfl) (by simp) ?_
            refine AllReady.cons rfl (fun K hK => ?_) ?_
            · go_simp
              go_wp2_with (go_at_call 12; refine (append_any p q d _ _ _ z.l _ D2.out O2.out.sl).mono ?_; rintro e w3 ⟨rfl, hd3, hc3⟩; have D3 := hid hd3; have C3 := hid (C2.out.dsk PP.out hc3); have R3 := hid (refdsk R2.out PP.out hc3); have g3 := cdsk PP.out GG.out hc3 g2; clear hd3 hc3)
              try (refine hK _ _ ?_; clear hK K)
              refine wpAny_ready (rs := [9]) (by kernel_rfl) (by simp) ?_
              refine AllReady.cons rfl (fun K hK => ?_) ?_
              · go_simp
                go_wp2_with (go_at_call 28; refine (rappend_any s x d _ _ _ z.l _ R3.out (SLB.out _ C3.out) hm).mono ?_; rintro e w4 ⟨rfl, hr4, hc4⟩; have R4 := hid hr4; have D4 := hid (diskrsk D3.out PP.out hc4); have C4 := hid (C3.out.rsk hc4); clear hr4 hc4)
                try (refine hK _ _ ?_; clear hK K)
                refine wpAny_take (i := 10) (v := ?_) rfl (by kernel_rfl) (by kernel_rfl) (by kernel_rfl) (fun _ _ _ h => h) (Or.inl ⟨by rfl, ?_⟩) ?_
                rotate_left
                · intro W_
                  go_simp
                  try with_reducible rfl
                refine wpAny_take (i := 11) (v := ?_) rfl (by kernel_rfl) (by kernel_rfl) (by kernel_rfl) (fun _ _ _ h => h) (Or.inl ⟨by rfl, ?_⟩) ?_
                rotate_left
                · intro W_
                  go_simp
                  try with_reducible rfl
                refine wpAny_done (by kernel_rfl) ?_ _
                go_wp2
                go_ret
                exact ⟨by first | rfl | (simp; done) | (simp; rfl), _, D4.out, R4.out, C1.out.all C4.out⟩
              exact AllReady.nil
            exact AllReady.nil
          exact AllReady.nil
        refine AllReady.cons rfl (fun K hK => ?_) ?_
        · go_simp
          refine hK _ _ ?_
          clear hK K
          refine wpAny_ready (rs := [4]) (by kernel_rfl) (by simp) ?_
          refine AllReady.cons rfl (fun K hK => ?_) ?_
          · refine step_app2 rfl _ _ _ _ rfl w1.heap.size 5 1 1 _ et_u8 _ 0 _ [] rfl ((M0 w1).drew) _ _ _ rfl ((SLA.out.ch HA.out (fun _ _ => id)).src Try.underlying27 (bv_one _)) m1 m2 (by simp) ?_
            intro a2 k2 w2 hO hC hN
            rw [List.nil_append, Nat.zero_add] at hO
            have C2 := hid (HA.out.trans hC (fun i hi ⟨b, hb, he⟩ => by cases hb; have : w1.heap.size = i := he; omega))
            have O2 := hid hO
            have D2 := hid (DD.out.ch C2.out id id)
            have R2 := hid (RR.out.ch C2.out id (fun _ _ => id))
            have g2 := C2.out.cell c2 id
            clear hO hC hN
            refine hK _ _ ?_
            clear hK K
            refine wpAny_ready (rs := [5]) (by kernel_rfl) (by simp) ?_
            refine AllReady.cons rfl (fun K hK => ?_) ?_
            · go_simp
              go_wp2_with (go_at_call 12; refine (append_any p q d _ _ _ z.l _ D2.out O2.out.sl).mono ?_; rintro e w3 ⟨rfl, hd3, hc3⟩; have D3 := hid hd3; have C3 := hid (C2.out.dsk PP.out hc3); have R3 := hid (refdsk R2.out PP.out hc3); have g3 := cdsk PP.out GG.out hc3 g2; clear hd3 hc3)
              try (refine hK _ _ ?_; clear hK K)
              refine wpAny_ready (rs := [9]) (by kernel_rfl) (by simp) ?_
              refine AllReady.cons rfl (fun K hK => ?_) ?_
              · go_simp
                go_wp2_with (go_at_call 28; refine (rappend_any s x d _ _ _ z.l _ R3.out (SLB.out _ C3.out) hm).mono ?_; rintro e w4 ⟨rfl, hr4, hc4⟩; have R4 := hid hr4; have D4 := hid (diskrsk D3.out PP.out hc4); have C4 := hid (C3.out.rsk hc4); clear hr4 hc4)
                try (refine hK _ _ ?_; clear hK K)
                refine wpAny_take (i := 10) (v := ?_) rfl (by kernel_rfl) (by kernel_rfl) (by kernel_rfl) (fun _ _ _ h => h) (Or.inl ⟨by rfl, ?_⟩) ?_
                rotate_left
                · intro W_
                  go_simp
                  try with_reducible rfl
                refine wpAny_take (i := 11) (v := ?_) rfl (by kernel_rfl) (by kernel_rfl) (by kernel_rfl) (fun _ _ _ h => h) (Or.inl ⟨by rfl, ?_⟩) ?_
                rotate_left
                · intro W_
                  go_simp
                  try with_reducible rfl
                refine wpAny_done (by kernel_rfl) ?_ _
                go_wp2
                go_ret
                exact ⟨by first | rfl | (simp; done) | (simp; rfl), _, D4.out, R4.out, C1.out.all C4.out⟩
              exact AllReady.nil
            exact AllReady.nil
          exact AllReady.nil
        exact AllReady.nil
      refine AllReady.cons rfl (fun K hK => ?_) ?_
      · go_simp
        refine hK _ _ ?_
        clear hK K
        refine wpAny_ready (rs := [1]) (by kernel_rfl) (by simp) ?_
        refine AllReady.cons rfl (fun K hK => ?_) ?_
        · go_simp
          refine hK _ _ ?_
          clear hK K
          refine wpAny_ready (rs := [4]) (by kernel_rfl) (by simp) ?_
          refine AllReady.cons rfl (fun K hK => ?_) ?_
          · refine step_app2 rfl _ _ _ _ rfl w1.heap.size 5 1 1 _ et_u8 _ 0 _ [] rfl ((M0 w1).drew) _ _ _ rfl ((SLA.out.ch HA.out (fun _ _ => id)).src Try.underlying27 (bv_one _)) m1 m2 (by simp) ?_
            intro a2 k2 w2 hO hC hN
            rw [List.nil_append, Nat.zero_add] at hO
            have C2 := hid (HA.out.trans hC (fun i hi ⟨b, hb, he⟩ => by cases hb; have : w1.heap.size = i := he; omega))
            have O2 := hid hO
            have D2 := hid (DD.out.ch C2.out id id)
            have R2 := hid (RR.out.ch C2.out id (fun _ _ => id))
            have g2 := C2.out.cell c2 id
            clear hO hC hN
            refine hK _ _ ?_
            clear hK K
            refine wpAny_ready (rs := [5]) (by kernel_rfl) (by simp) ?_
            refine AllReady.cons rfl (fun K hK => ?_) ?_
            · go_simp
              go_wp2_with (go_at_call 12; refine (append_any p q d _ _ _ z.l _ D2.out O2.out.sl).mono ?_; rintro e w3 ⟨rfl, hd3, hc3⟩; have D3 := hid hd3; have C3 := hid (C2.out.dsk PP.out hc3); have R3 := hid (refdsk R2.out PP.out hc3); have g3 := cdsk PP.out GG.out hc3 g2; clear hd3 hc3)
              try (refine hK _ _ ?_; clear hK K)
              refine wpAny_ready (rs := [9]) (by kernel_rfl) (by simp) ?_
              refine AllReady.cons rfl (fun K hK => ?_) ?_
              · go_simp
                go_wp2_with (go_at_call 28; refine (rappend_any s x d _ _ _ z.l _ R3.out (SLB.out _ C3.out) hm).mono ?_; rintro e w4 ⟨rfl, hr4, hc4⟩; have R4 := hid hr4; have D4 := hid (diskrsk D3.out PP.out hc4); have C4 := hid (C3.out.rsk hc4); clear hr4 hc4)
                try (refine hK _ _ ?_; clear hK K)
                refine wpAny_take (i := 10) (v := ?_) rfl (by kernel_rfl) (by kernel_rfl) (by kernel_rfl) (fun _ _ _ h => h) (Or.inl ⟨by rfl, ?_⟩) ?_
                rotate_left
                · intro W_
                  go_simp
                  try with_reducible rfl
                refine wpAny_take (i := 11) (v := ?_) rfl (by kernel_rfl) (by kernel_rfl) (by kernel_rfl) (fun _ _ _ h => h) (Or.inl ⟨by rfl, ?_⟩) ?_
                rotate_left
                · intro W_
                  go_simp
                  try with_reducible rfl
                refine wpAny_done (by kernel_rfl) ?_ _
                go_wp2
                go_ret
                exact ⟨by first | rfl | (simp; done) | (simp; rfl), _, D4.out, R4.out, C1.out.all C4.out⟩
              exact AllReady.nil
            exact AllReady.nil
          exact AllReady.nil
        exact AllReady.nil
      exact AllReady.nil
    refine AllReady.cons rfl (fun K hK => ?_) ?_
    · go_simp
      refine hK _ _ ?_
      clear hK K
      refine wpAny_ready (rs := [1, 3]) (by kernel_rfl) (by simp) ?_
      refine AllReady.cons rfl (fun K hK => ?_) ?_
      · go_simp
        refine hK _ _ ?_
        clear hK K
        refine wpAny_ready (rs := [3]) (by kernel_rfl) (by simp) ?_
        refine AllReady.cons rfl (fun K hK => ?_) ?_
        · go_simp
          refine hK _ _ ?_
          clear hK K
          refine wpAny_ready (rs := [4]) (by kernel_rfl) (by simp) ?_
          refine AllReady.cons rfl (fun K hK => ?_) ?_
          · refine step_app2 rfl _ _ _ _ rfl w1.heap.size 5 1 1 _ et_u8 _ 0 _ [] rfl ((M0 w1).drew) _ _ _ rfl ((SLA.out.ch HA.out (fun _ _ => id)).src Try.underlying27 (bv_one _)) m1 m2 (by simp) ?_
            intro a2 k2 w2 hO hC hN
            rw [List.nil_append, Nat.zero_add] at hO
            have C2 := hid (HA.out.trans hC (fun i hi ⟨b, hb, he⟩ => by cases hb; have : w1.heap.size = i := he; omega))
            have O2 := hid hO
            have D2 := hid (DD.out.ch C2.out id id)
            have R2 := hid (RR.out.ch C2.out id (fun _ _ => id))
            have g2 := C2.out.cell c2 id
            clear hO hC hN
            refine hK _ _ ?_
            clear hK K
            refine wpAny_ready (rs := [5]) (by kernel_rfl) (by simp) ?_
            refine AllReady.cons rfl (fun K hK => ?_) ?_
            · go_simp
              go_wp2_with (go_at_call 12; refine (append_any p q d _ _ _ z.l _ D2.out O2.out.sl).mono ?_; rintro e w3 ⟨rfl, hd3, hc3⟩; have D3 := hid hd3; have C3 := hid (C2.out.dsk PP.out hc3); have R3 := hid (refdsk R2.out PP.out hc3); have g3 := cdsk PP.out GG.out hc3 g2; clear hd3 hc3)
              try (refine hK _ _ ?_; clear hK K)
              refine wpAny_ready (rs := [9]) (by kernel_rfl) (by simp) ?_
              refine AllReady.cons rfl (fun K hK => ?_) ?_
              · go_simp
                go_wp2_with (go_at_call 28; refine (rappend_any s x d _ _ _ z.l _ R3.out (SLB.out _ C3.out) hm).mono ?_; rintro e w4 ⟨rfl, hr4, hc4⟩; have R4 := hid hr4; have D4 := hid (diskrsk D3.out PP.out hc4); have C4 := hid (C3.out.rsk hc4); clear hr4 hc4)
                try (refine hK _ _ ?_; clear hK K)
                refine wpAny_take (i := 10) (v := ?_) rfl (by kernel_rfl) (by kernel_rfl) (by kernel_rfl) (fun _ _ _ h => h) (Or.inl ⟨by rfl, ?_⟩) ?_
                rotate_left
                · intro W_
                  go_simp
                  try with_reducible rfl
                refine wpAny_take (i := 11) (v := ?_) rfl (by kernel_rfl) (by kernel_rfl) (by kernel_rfl) (fun _ _ _ h => h) (Or.inl ⟨by rfl, ?_⟩) ?_
                rotate_left
                · intro W_
                  go_simp
                  try with_reducible rfl
                refine wpAny_done (by kernel_rfl) ?_ _
                go_wp2
                go_ret
                exact ⟨by first | rfl | (simp; done) | (simp; rfl), _, D4.out, R4.out, C1.out.all C4.out⟩
              exact AllReady.nil
            exact AllReady.nil
          exact AllReady.nil
        exact AllReady.nil
      refine AllReady.cons rfl (fun K hK => ?_) ?_
      · go_simp
        refine hK _ _ ?_
        clear hK K
        refine wpAny_ready (rs := [1]) (by kernel_rfl) (by simp) ?_
        refine AllReady.cons rfl (fun K hK => ?_) ?_
        · go_simp
          refine hK _ _ ?_
          clear hK K
          refine wpAny_ready (rs := [4]) (by kernel_rfl) (by simp) ?_
          refine AllReady.cons rfl (fun K hK => ?_) ?_
          · refine step_app2 rfl _ _ _ _ rfl w1.heap.size 5 1 1 _ et_u8 _ 0 _ [] rfl ((M0 w1).drew) _ _ _ rfl ((SLA.out.ch HA.out (fun _ _ => id)).src Try.underlying27 (bv_one _)) m1 m2 (by simp) ?_
            intro a2 k2 w2 hO hC hN
            rw [List.nil_append, Nat.zero_add] at hO
            have C2 := hid (HA.out.trans hC (fun i hi ⟨b, hb, he⟩ => by cases hb; have : w1.heap.size = i := he; omega))
            have O2 := hid hO
            have D2 := hid (DD.out.ch C2.out id id)
            have R2 := hid (RR.out.ch C2.out id (fun _ _ => id))
            have g2 := C2.out.cell c2 id
            clear hO hC hN
            refine hK _ _ ?_
            clear hK K
            refine wpAny_ready (rs := [5]) (by kernel_rfl) (by simp) ?_
            refine AllReady.cons rfl (fun K hK => ?_) ?_
            · go_simp
              go_wp2_with (go_at_call 12; refine (append_any p q d _ _ _ z.l _ D2.out O2.out.sl).mono ?_; rintro e w3 ⟨rfl, hd3, hc3⟩; have D3 := hid hd3; have C3 := hid (C2.out.dsk PP.out hc3); have R3 := hid (refdsk R2.out PP.out hc3); have g3 := cdsk PP.out GG.out hc3 g2; clear hd3 hc3)
              try (refine hK _ _ ?_; clear hK K)
              refine wpAny_ready (rs := [9]) (by kernel_rfl) (by simp) ?_
              refine AllReady.cons rfl (fun K hK => ?_) ?_
              · go_simp
                go_wp2_with (go_at_call 28; refine (rappend_any s x d _ _ _ z.l _ R3.out (SLB.out _ C3.out) hm).mono ?_; rintro e w4 ⟨rfl, hr4, hc4⟩; have R4 := hid hr4; have D4 := hid (diskrsk D3.out PP.out hc4); have C4 := hid (C3.out.rsk hc4); clear hr4 hc4)
                try (refine hK _ _ ?_; clear hK K)
                refine wpAny_take (i := 10) (v := ?_) rfl (by kernel_rfl) (by kernel_rfl) (by kernel_rfl) (fun _ _ _ h => h) (Or.inl ⟨by rfl, ?_⟩) ?_
                rotate_left
                · intro W_
                  go_simp
                  try with_reducible rfl
                refine wpAny_take (i := 11) (v := ?_) rfl (by kernel_rfl) (by kernel_rfl) (by kernel_rfl) (fun _ _ _ h => h) (Or.inl ⟨by rfl, ?_⟩) ?_
                rotate_left
                · intro W_
                  go_simp
                  try with_reducible rfl
                refine wpAny_done (by kernel_rfl) ?_ _
                go_wp2
                go_ret
                exact ⟨by first | rfl | (simp; done) | (simp; rfl), _, D4.out, R4.out, C1.out.all C4.out⟩
              exact AllReady.nil
            exact AllReady.nil
          exact AllReady.nil
        exact AllReady.nil
      exact AllReady.nil
    exact AllReady.nil
  case inr.inl =>
    go_wp2
    refine wp_region_any (by kernel_rfl) ?_
    try (change wpAny _ _ _ _ _ _ _ (World.drew _))
    refine wpAny_take (i := 0) (v := ?_) rfl (by kernel_rfl) (by kernel_rfl) (by kernel_rfl) (fun _ _ _ h => h) (Or.inl ⟨by rfl, ?_⟩) ?_
    rotate_left
    · intro W_
      go_simp
      try with_reducible rfl
    refine wpAny_take (i := 2) (v := ?_) rfl (by kernel_rfl) (by kernel_rfl) (by kernel_rfl) (fun _ _ _ h => h) (Or.inl ⟨by rfl, ?_⟩) ?_
    rotate_left
    · intro W_
      go_simp
      try with_reducible rfl
    refine wpAny_take (i := 6) (v := ?_) rfl (by kernel_rfl) (by kernel_rfl) (by kernel_rfl) (fun _ _ _ h => h) (Or.inl ⟨by rfl, ?_⟩) ?_
    rotate_left
    · intro W_
      go_simp
      try with_reducible rfl
    refine wpAny_take (i := 7) (v := ?_) rfl (by kernel_rfl) (by kernel_rfl) (by kernel_rfl) (fun _ _ _ h => h) (Or.inl ⟨by rfl, ?_⟩) ?_
    rotate_left
    · intro W_
      go_simp
      try with_reducible rfl
    refine wpAny_ready (rs := [1, 3, 8]) (by kernel_rfl) (by simp) ?_
    refine AllReady.cons rfl (fun K hK => ?_) ?_
    · go_simp
      refine hK _ _ ?_
      clear hK K
      refine wpAny_ready (rs := [3, 8]) (by kernel_rfl) (by simp) ?_
      refine AllReady.cons rfl (fun K hK => ?_) ?_
      · go_simp
        refine hK _ _ ?_
        clear hK K
        refine wpAny_ready (rs := [4, 8]) (by kernel_rfl) (by simp) ?_
        refine AllReady.cons rfl (fun K hK => ?_) ?_
        · refine step_app2 rfl _ _ _ _ rfl w1.heap.size 5 1 1 _ et_u8 _ 0 _ [] rfl ((M0 w1).drew) _ _ _ rfl ((SLA.out.ch HA.out (fun _ _ => id)).src Try.underlying27 (bv_one _)) m1 m2 (by simp) ?_
          intro a2 k2 w2 hO hC hN
          rw [List.nil_append, Nat.zero_add] at hO
          have C2 := hid (HA.out.trans hC (fun i hi ⟨b, hb, he⟩ => by cases hb; have : w1.heap.size = i := he; omega))
          have O2 := hid hO
          have D2 := hid (DD.out.ch C2.out id id)
          have R2 := hid (RR.out.ch C2.out id (fun _ _ => id))
          have g2 := C2.out.cell c2 id
          clear hO hC hN
          refine hK _ _ ?_
          clear hK K
          refine wpAny_ready (rs := [5, 8]) (by kernel_rfl) (by simp) ?_
          refine AllReady.cons rfl (fun K hK => ?_) ?_
          · go_simp
            go_wp2_with (go_at_call 12; refine (append_any p q d _ _ _ z.l _ D2.out O2.out.sl).mono ?_; rintro e w3 ⟨rfl, hd3, hc3⟩; have D3 := hid hd3; have C3 := hid (C2.out.dsk PP.out hc3); have R3 := hid (refdsk R2.out PP.out hc3); have g3 := cdsk PP.out GG.out hc3 g2; clear hd3 hc3)
            try (refine hK _ _ ?_; clear hK K)
            refine wpAny_ready (rs := [8]) (by kernel_rfl) (by simp) ?_
            refine AllReady.cons rfl (fun K hK => ?_) ?_
            · go_simp
              refine hK _ _ ?_
              clear hK K
              refine wpAny_ready (rs := [9]) (by kernel_rfl) (by simp) ?_
              refine AllReady.cons rfl (fun K hK => ?_) ?_
              · go_simp
                go_wp2_with (go_at_call 28; refine (rappend_any s x d _ _ _ z.l _ R3.out (SLB.out _ C3.out) hm).mono ?_; rintro e w4 ⟨rfl, hr4, hc4⟩; have R4 := hid hr4; have D4 := hid (diskrsk D3.out PP.out hc4); have C4 := hid (C3.out.rsk hc4); clear hr4 hc4)
                try (refine hK _ _ ?_; clear hK K)
                refine wpAny_take (i := 10) (v := ?_) rfl (by kernel_rfl) (by kernel_rfl) (by kernel_rfl) (fun _ _ _ h => h) (Or.inl ⟨by rfl, ?_⟩) ?_
                rotate_left
                · intro W_
                  go_simp
                  try with_reducible rfl
                refine wpAny_take (i := 11) (v := ?_) rfl (by kernel_rfl) (by kernel_rfl) (by kernel_rfl) (fun _ _ _ h => h) (Or.inl ⟨by rfl, ?_⟩) ?_
                rotate_left
                · intro W_
                  go_simp
                  try with_reducible rfl
                refine wpAny_done (by kernel_rfl) ?_ _
                go_wp2
                go_ret
                exact ⟨by first | rfl | (simp; done) | (simp; rfl), _, D4.out, R4.out, C1.out.all C4.out⟩
              exact AllReady.nil
            exact AllReady.nil
          refine AllReady.cons rfl (fun K hK => ?_) ?_
          · go_simp
            refine hK _ _ ?_
            clear hK K
            refine wpAny_ready (rs := [5]) (by kernel_rfl) (by simp) ?_
            refine AllReady.cons rfl (fun K hK => ?_) ?_
            · go_simp
              go_wp2_with (go_at_call 12; refine (append_any p q d _ _ _ z.l _ D2.out O2.out.sl).mono ?_; rintro e w3 ⟨rfl, hd3, hc3⟩; have D3 := hid hd3; have C3 := hid (C2.out.dsk PP.out hc3); have R3 := hid (refdsk R2.out PP.out hc3); have g3 := cdsk PP.out GG.out hc3 g2; clear hd3 hc3)
              try (refine hK _ _ ?_; clear hK K)
              refine wpAny_ready (rs := [9]) (by kernel_rfl) (by simp) ?_
              refine AllReady.cons rfl (fun K hK => ?_) ?_
              · go_simp
                go_wp2_with (go_at_call 28; refine (rappend_any s x d _ _ _ z.l _ R3.out (SLB.out _ C3.out) hm).mono ?_; rintro e w4 ⟨rfl, hr4, hc4⟩; have R4 := hid hr4; have D4 := hid (diskrsk D3.out PP.out hc4); have C4 := hid (C3.out.rsk hc4); clear hr4 hc4)
                try (refine hK _ _ ?_; clear hK K)
                refine wpAny_take (i := 10) (v := ?_) rfl (by kernel_rfl) (by kernel_rfl) (by kernel_rfl) (fun _ _ _ h => h) (Or.inl ⟨by rfl, ?_⟩) ?_
                rotate_left
                · intro W_
                  go_simp
                  try with_reducible rfl
                refine wpAny_take (i := 11) (v := ?_) rfl (by kernel_rfl) (by kernel_rfl) (by kernel_rfl) (fun _ _ _ h => h) (Or.inl ⟨by rfl, ?_⟩) ?_
                rotate_left
                · intro W_
                  go_simp
                  try with_reducible rfl
                refine wpAny_done (by kernel_rfl) ?_ _
                go_wp2
                go_ret
                exact ⟨by first | rfl | (simp; done) | (simp; rfl), _, D4.out, R4.out, C1.out.all C4.out⟩
              exact AllReady.nil
            exact AllReady.nil
          exact AllReady.nil
        refine AllReady.cons rfl (fun K hK => ?_) ?_
        · go_simp
          refine hK _ _ ?_
          clear hK K
          refine wpAny_ready (rs := [4]) (by kernel_rfl) (by simp) ?_
          refine AllReady.cons rfl (fun K hK => ?_) ?_
          · refine step_app2 rfl _ _ _ _ rfl w1.heap.size 5 1 1 _ et_u8 _ 0 _ [] rfl ((M0 w1).drew) _ _ _ rfl ((SLA.out.ch HA.out (fun _ _ => id)).src Try.underlying27 (bv_one _)) m1 m2 (by simp) ?_
            intro a2 k2 w2 hO hC hN
            rw [List.nil_append, Nat.zero_add] at hO
            have C2 := hid (HA.out.trans hC (fun i hi ⟨b, hb, he⟩ => by cases hb; have : w1.heap.size = i := he; omega))
            have O2 := hid hO
            have D2 := hid (DD.out.ch C2.out id id)
            have R2 := hid (RR.out.ch C2.out id (fun _ _ => id))
            have g2 := C2.out.cell c2 id
            clear hO hC hN
            refine hK _ _ ?_
            clear hK K
            refine wpAny_ready (rs := [5]) (by kernel_rfl) (by simp) ?_
            refine AllReady.cons rfl (fun K hK => ?_) ?_
            · go_simp
              go_wp2_with (go_at_call 12; refine (append_any p q d _ _ _ z.l _ D2.out O2.out.sl).mono ?_; rintro e w3 ⟨rfl, hd3, hc3⟩; have D3 := hid hd3; have C3 := hid (C2.out.dsk PP.out hc3); have R3 := hid (refdsk R2.out PP.out hc3); have g3 := cdsk PP.out GG.out hc3 g2; clear hd3 hc3)
              try (refine hK _ _ ?_; clear hK K)
              refine wpAny_ready (rs := [9]) (by kernel_rfl) (by simp) ?_
              refine AllReady.cons rfl (fun K hK => ?_) ?_
              · go_simp
                go_wp2_with (go_at_call 28; refine (rappend_any s x d _ _ _ z.l _ R3.out (SLB.out _ C3.out) hm).mono ?_; rintro e w4 ⟨rfl, hr4, hc4⟩; have R4 := hid hr4; have D4 := hid (diskrsk D3.out PP.out hc4); have C4 := hid (C3.out.rsk hc4); clear hr4 hc4)
                try (refine hK _ _ ?_; clear hK K)
                refine wpAny_take (i := 10) (v := ?_) rfl (by kernel_rfl) (by kernel_rfl) (by kernel_rfl) (fun _ _ _ h => h) (Or.inl ⟨by rfl, ?_⟩) ?_
                rotate_left
                · intro W_
                  go_simp
                  try with_reducible rfl
                refine wpAny_take (i := 11) (v := ?_) rfl (by kernel_rfl) (by kernel_rfl) (by kernel_rfl) (fun _ _ _ h => h) (Or.inl ⟨by rfl, ?_⟩) ?_
                rotate_left
                · intro W_
                  go_simp
                  try with_reducible rfl
                refine wpAny_done (by kernel_rfl) ?_ _
                go_wp2
                go_ret
                exact ⟨by first | rfl | (simp; done) | (simp; rfl), _, D4.out, R4.out, C1.out.all C4.out⟩
              exact AllReady.nil
            exact AllReady.nil
          exact AllReady.nil
        exact AllReady.nil
      refine AllReady.cons rfl (fun K hK => ?_) ?_
      · go_simp
        refine hK _ _ ?_
        clear hK K
        refine wpAny_ready (rs := [3]) (by kernel_rfl) (by simp) ?_
        refine AllReady.cons rfl (fun K hK => ?_) ?_
        · go_simp
          refine hK _ _ ?_
          clear hK K
          refine wpAny_ready (rs := [4]) (by kernel_rfl) (by simp) ?_
          refine AllReady.cons rfl (fun K hK => ?_) ?_
          · refine step_app2 rfl _ _ _ _ rfl w1.heap.size 5 1 1 _ et_u8 _ 0 _ [] rfl ((M0 w1).drew) _ _ _ rfl ((SLA.out.ch HA.out (fun _ _ => id)).src Try.underlying27 (bv_one _)) m1 m2 (by simp) ?_
            intro a2 k2 w2 hO hC hN
            rw [List.nil_append, Nat.zero_add] at hO
            have C2 := hid (HA.out.trans hC (fun i hi ⟨b, hb, he⟩ => by cases hb; have : w1.heap.size = i := he; omega))
            have O2 := hid hO
            have D2 := hid (DD.out.ch C2.out id id)
            have R2 := hid (RR.out.ch C2.out id (fun _ _ => id))
            have g2 := C2.out.cell c2 id
            clear hO hC hN
            refine hK _ _ ?_
            clear hK K
            refine wpAny_ready (rs := [5]) (by kernel_rfl) (by simp) ?_
            refine AllReady.cons rfl (fun K hK => ?_) ?_
            · go_simp
              go_wp2_with (go_at_call 12; refine (append_any p q d _ _ _ z.l _ D2.out O2.out.sl).mono ?_; rintro e w3 ⟨rfl, hd3, hc3⟩; have D3 := hid hd3; have C3 := hid (C2.out.dsk PP.out hc3); have R3 := hid (refdsk R2.out PP.out hc3); have g3 := cdsk PP.out GG.out hc3 g2; clear hd3 hc3)
              try (refine hK _ _ ?_; clear hK K)
              refine wpAny_ready (rs := [9]) (by kernel_rfl) (by simp) ?_
              refine AllReady.cons rfl (fun K hK => ?_) ?_
              · go_simp
                go_wp2_with (go_at_call 28; refine (rappend_any s x d _ _ _ z.l _ R3.out (SLB.out _ C3.out) hm).mono ?_; rintro e w4 ⟨rfl, hr4, hc4⟩; have R4 := hid hr4; have D4 := hid (diskrsk D3.out PP.out hc4); have C4 := hid (C3.out.rsk hc4); clear hr4 hc4)
                try (refine hK _ _ ?_; clear hK K)
                refine wpAny_take (i := 10) (v := ?_) rfl (by kernel_rfl) (by kernel_rfl) (by kernel_rfl) (fun _ _ _ h => h) (Or.inl ⟨by rfl, ?_⟩) ?_
                rotate_left
                · intro W_
                  go_simp
                  try with_reducible rfl
                refine wpAny_take (i := 11) (v := ?_) rfl (by kernel_rfl) (by kernel_rfl) (by kernel_rfl) (fun _ _ _ h => h) (Or.inl ⟨by rfl, ?_⟩) ?_
                rotate_left
                · intro W_
                  go_simp
                  try with_reducible rfl
                refine wpAny_done (by kernel_rfl) ?_ _
                go_wp2
                go_ret
                exact ⟨by first | rfl | (simp; done) | (simp; rfl), _, D4.out, R4.out, C1.out.all C4.out⟩
              exact AllReady.nil
            exact AllReady.nil
          exact AllReady.nil
        exact AllReady.nil
      exact AllReady.nil
    refine AllReady.cons rfl (fun K hK => ?_) ?_
    · go_simp
      refine hK _ _ ?_
      clear hK K
      refine wpAny_ready (rs := [1, 8]) (by kernel_rfl) (by simp) ?_
      refine AllReady.cons rfl (fun K hK => ?_) ?_
      · go_simp
        refine hK _ _ ?_
        clear hK K
        refine wpAny_ready (rs := [4, 8]) (by kernel_rfl) (by simp) ?_
        refine AllReady.cons rfl (fun K hK => ?_) ?_
        · refine step_app2 rfl _ _ _ _ rfl w1.heap.size 5 1 1 _ et_u8 _ 0 _ [] rfl ((M0 w1).drew) _ _ _ rfl ((SLA.out.ch HA.out (fun _ _ => id)).src Try.underlying27 (bv_one _)) m1 m2 (by simp) ?_
          intro a2 k2 w2 hO hC hN
          rw [List.nil_append, Nat.zero_add] at hO
          have C2 := hid (HA.out.trans hC (fun i hi ⟨b, hb, he⟩ => by cases hb; have : w1.heap.size = i := he; omega))
          have O2 := hid hO
          have D2 := hid (DD.out.ch C2.out id id)
          have R2 := hid (RR.out.ch C2.out id (fun _ _ => id))
          have g2 := C2.out.cell c2 id
          clear hO hC hN
          refine hK _ _ ?_
          clear hK K
          refine wpAny_ready (rs := [5, 8]) (by kernel_rfl) (by simp) ?_
          refine AllReady.cons rfl (fun K hK => ?_) ?_
          · go_simp
            go_wp2_with (go_at_call 12; refine (append_any p q d _ _ _ z.l _ D2.out O2.out.sl).mono ?_; rintro e w3 ⟨rfl, hd3, hc3⟩; have D3 := hid hd3; have C3 := hid (C2.out.dsk PP.out hc3); have R3 := hid (refdsk R2.out PP.out hc3); have g3 := cdsk PP.out GG.out hc3 g2; clear hd3 hc3)
            try (refine hK _ _ ?_; clear hK K)
            refine wpAny_ready (rs := [8]) (by kernel_rfl) (by simp) ?_
            refine AllReady.cons rfl (fun K hK => ?_) ?_
            · go_simp
              refine hK _ _ ?_
              clear hK K
              refine wpAny_ready (rs := [9]) (by kernel_rfl) (by simp) ?_
              refine AllReady.cons rfl (fun K hK => ?_) ?_
              · go_simp
                go_wp2_with (go_at_call 28; refine (rappend_any s x d _ _ _ z.l _ R3.out (SLB.out _ C3.out) hm).mono ?_; rintro e w4 ⟨rfl, hr4, hc4⟩; have R4 := hid hr4; have D4 := hid (diskrsk D3.out PP.out hc4); have C4 := hid (C3.out.rsk hc4); clear hr4 hc4)
                try (refine hK _ _ ?_; clear hK K)
                refine wpAny_take (i := 10) (v := ?_) rfl (by kernel_rfl) (by kernel_rfl) (by kernel_rfl) (fun _ _ _ h => h) (Or.inl ⟨by rfl, ?_⟩) ?_
                rotate_left
                · intro W_
                  go_simp
                  try with_reducible rfl
                refine wpAny_take (i := 11) (v := ?_) rfl (by kernel_rfl) (by kernel_rfl) (by kernel_rfl) (fun _ _ _ h => h) (Or.inl ⟨by rfl, ?_⟩) ?_
                rotate_left
                · intro W_
                  go_simp
                  try with_reducible rfl
                refine wpAny_done (by kernel_rfl) ?_ _
                go_wp2
                go_ret
                exact ⟨by first | rfl | (simp; done) | (simp; rfl), _, D4.out, R4.out, C1.out.all C4.out⟩
              exact AllReady.nil
            exact AllReady.nil
          refine AllReady.cons rfl (fun K hK => ?_) ?_
          · go_simp
            refine hK _ _ ?_
            clear hK K
            refine wpAny_ready (rs := [5]) (by kernel_rfl) (by simp) ?_
            refine AllReady.cons rfl (fun K hK => ?_) ?_
            · go_simp
              go_wp2_with (go_at_call 12; refine (append_any p q d _ _ _ z.l _ D2.out O2.out.sl).mono ?_; rintro e w3 ⟨rfl, hd3, hc3⟩; have D3 := hid hd3; have C3 := hid (C2.out.dsk PP.out hc3); have R3 := hid (refdsk R2.out PP.out hc3); have g3 := cdsk PP.out GG.out hc3 g2; clear hd3 hc3)
              try (refine hK _ _ ?_; clear hK K)
              refine wpAny_ready (rs := [9]) (by kernel_rfl) (by simp) ?_
              refine AllReady.cons rfl (fun K hK => ?_) ?_
              · go_simp
                go_wp2_with (go_at_call 28; refine (rappend_any s x d _ _ _ z.l _ R3.out (SLB.out _ C3.out) hm).mono ?_; rintro e w4 ⟨rfl, hr4, hc4⟩; have R4 := hid hr4; have D4 := hid (diskrsk D3.out PP.out hc4); have C4 := hid (C3.out.rsk hc4); clear hr4 hc4)
                try (refine hK _ _ ?_; clear hK K)
                refine wpAny_take (i := 10) (v := ?_) rfl (by kernel_rfl) (by kernel_rfl) (by kernel_rfl) (fun _ _ _ h => h) (Or.inl ⟨by rfl, ?_⟩) ?_
                rotate_left
                · intro W_
                  go_simp
                  try with_reducible rfl
                refine wpAny_take (i := 11) (v := ?_) rfl (by kernel_rfl) (by kernel_rfl) (by kernel_rfl) (fun _ _ _ h => h) (Or.inl ⟨by rfl, ?_⟩) ?_
                rotate_left
                · intro W_
                  go_simp
                  try with_reducible rfl
                refine wpAny_done (by kernel_rfl) ?_ _
                go_wp2
                go_ret
                exact ⟨by first | rfl | (simp; done) | (simp; rfl), _, D4.out, R4.out, C1.out.all C4.out⟩
              exact AllReady.nil
            exact AllReady.nil
          exact AllReady.nil
        refine AllReady.cons rfl (fun K hK => ?_) ?_
        · go_simp
          refine hK _ _ ?_
          clear hK K
          refine wpAny_ready (rs := [4]) (by kernel_rfl) (by simp) ?_
          refine AllReady.cons rfl (fun K hK => ?_) ?_
          · refine step_app2 rfl _ _ _ _ rfl w1.heap.size 5 1 1 _ et_u8 _ 0 _ [] rfl ((M0 w1).drew) _ _ _ rfl ((SLA.out.ch HA.out (fun _ _ => id)).src Try.underlying27 (bv_one _)) m1 m2 (by simp) ?_
            intro a2 k2 w2 hO hC hN
            rw [List.nil_append, Nat.zero_add] at hO
            have C2 := hid (HA.out.trans hC (fun i hi ⟨b, hb, he⟩ => by cases hb; have : w1.heap.size = i := he; omega))
            have O2 := hid hO
            have D2 := hid (DD.out.ch C2.out id id)
            have R2 := hid (RR.out.ch C2.out id (fun _ _ => id))
            have g2 := C2.out.cell c2 id
            clear hO hC hN
            refine hK _ _ ?_
            clear hK K
            refine wpAny_ready (rs := [5]) (by kernel_rfl) (by simp) ?_
            refine AllReady.cons rfl (fun K hK => ?_) ?_
            · go_simp
              go_wp2_with (go_at_call 12; refine (append_any p q d _ _ _ z.l _ D2.out O2.out.sl).mono ?_; rintro e w3 ⟨rfl, hd3, hc3⟩; have D3 := hid hd3; have C3 := hid (C2.out.dsk PP.out hc3); have R3 := hid (refdsk R2.out PP.out hc3); have g3 := cdsk PP.out GG.out hc3 g2; clear hd3 hc3)
              try (refine hK _ _ ?_; clear hK K)
              refine wpAny_ready (rs := [9]) (by kernel_rfl) (by simp) ?_
              refine AllReady.cons rfl (fun K hK => ?_) ?_
              · go_simp
                go_wp2_with (go_at_call 28; refine (rappend_any s x d _ _ _ z.l _ R3.out (SLB.out _ C3.out) hm).mono ?_; rintro e w4 ⟨rfl, hr4, hc4⟩; have R4 := hid hr4; have D4 := hid (diskrsk D3.out PP.out hc4); have C4 := hid (C3.out.rsk hc4); clear hr4 hc4)
                try (refine hK _ _ ?_; clear hK K)
                refine wpAny_take (i := 10) (v := ?_) rfl (by kernel_rfl) (by kernel_rfl) (by kernel_rfl) (fun _ _ _ h => h) (Or.inl ⟨by rfl, ?_⟩) ?_
                rotate_left
                · intro W_
                  go_simp
                  try with_reducible rfl
                refine wpAny_take (i := 11) (v := ?_) rfl (by kernel_rfl) (by kernel_rfl) (by kernel_rfl) (fun _ _ _ h => h) (Or.inl ⟨by rfl, ?_⟩) ?_
                rotate_left
                · intro W_
                  go_simp
                  try with_reducible rfl
                refine wpAny_done (by kernel_rfl) ?_ _
                go_wp2
                go_ret
                exact ⟨by first | rfl | (simp; done) | (simp; rfl), _, D4.out, R4.out, C1.out.all C4.out⟩
              exact AllReady.nil
            exact AllReady.nil
          exact AllReady.nil
        exact AllReady.nil
      refine AllReady.cons rfl (fun K hK => ?_) ?_
      · go_simp
        refine hK _ _ ?_
        clear hK K
        refine wpAny_ready (rs := [1]) (by kernel_rfl) (by simp) ?_
        refine AllReady.cons rfl (fun K hK => ?_) ?_
        · go_simp
          refine hK _ _ ?_
          clear hK K
          refine wpAny_ready (rs := [4]) (by kernel_rfl) (by simp) ?_
          refine AllReady.cons rfl (fun K hK => ?_) ?_
          · refine step_app2 rfl _ _ _ _ rfl w1.heap.size 5 1 1 _ et_u8 _ 0 _ [] rfl ((M0 w1).drew) _ _ _ rfl ((SLA.out.ch HA.out (fun _ _ => id)).src Try.underlying27 (bv_one _)) m1 m2 (by simp) ?_
            intro a2 k2 w2 hO hC hN
            rw [List.nil_append, Nat.zero_add] at hO
            have C2 := hid (HA.out.trans hC (fun i hi ⟨b, hb, he⟩ => by cases hb; have : w1.heap.size = i := he; omega))
            have O2 := hid hO
            have D2 := hid (DD.out.ch C2.out id id)
            have R2 := hid (RR.out.ch C2.out id (fun _ _ => id))
            have g2 := C2.out.cell c2 id
            clear hO hC hN
            refine hK _ _ ?_
            clear hK K
            refine wpAny_ready (rs := [5]) (by kernel_rfl) (by simp) ?_
            refine AllReady.cons rfl (fun K hK => ?_) ?_
            · go_simp
              go_wp2_with (go_at_call 12; refine (append_any p q d _ _ _ z.l _ D2.out O2.out.sl).mono ?_; rintro e w3 ⟨rfl, hd3, hc3⟩; have D3 := hid hd3; have C3 := hid (C2.out.dsk PP.out hc3); have R3 := hid (refdsk R2.out PP.out hc3); have g3 := cdsk PP.out GG.out hc3 g2; clear hd3 hc3)
              try (refine hK _ _ ?_; clear hK K)
              refine wpAny_ready (rs := [9]) (by kernel_rfl) (by simp) ?_
              refine AllReady.cons rfl (fun K hK => ?_) ?_
              · go_simp
                go_wp2_with (go_at_call 28; refine (rappend_any s x d _ _ _ z.l _ R3.out (SLB.out _ C3.out) hm).mono ?_; rintro e w4 ⟨rfl, hr4, hc4⟩; have R4 := hid hr4; have D4 := hid (diskrsk D3.out PP.out hc4); have C4 := hid (C3.out.rsk hc4); clear hr4 hc4)
                try (refine hK _ _ ?_; clear hK K)
                refine wpAny_take (i := 10) (v := ?_) rfl (by kernel_rfl) (by kernel_rfl) (by kernel_rfl) (fun _ _ _ h => h) (Or.inl ⟨by rfl, ?_⟩) ?_
                rotate_left
                · intro W_
                  go_simp
                  try with_reducible rfl
                refine wpAny_take (i := 11) (v := ?_) rfl (by kernel_rfl) (by kernel_rfl) (by kernel_rfl) (fun _ _ _ h => h) (Or.inl ⟨by rfl, ?_⟩) ?_
                rotate_left
                · intro W_
                  go_simp
                  try with_reducible rfl
                refine wpAny_done (by kernel_rfl) ?_ _
                go_wp2
                go_ret
                exact ⟨by first | rfl | (simp; done) | (simp; rfl), _, D4.out, R4.out, C1.out.all C4.out⟩
              exact AllReady.nil
            exact AllReady.nil
          exact AllReady.nil
        exact AllReady.nil
      exact AllReady.nil
    refine AllReady.cons rfl (fun K hK => ?_) ?_
    · go_simp
      refine hK _ _ ?_
      clear hK K
      refine wpAny_ready (rs := [1, 3]) (by kernel_rfl) (by simp) ?_
      refine AllReady.cons rfl (fun K hK => ?_) ?_
      · go_simp
        refine hK _ _ ?_
        clear hK K
        refine wpAny_ready (rs := [3]) (by kernel_rfl) (by simp) ?_
        refine AllReady.cons rfl (fun K hK => ?_) ?_
        · go_simp
          refine hK _ _ ?_
          clear hK K
          refine wpAny_ready (rs := [4]) (by kernel_rfl) (by simp) ?_
          refine AllReady.cons rfl (fun K hK => ?_) ?_
          · refine step_app2 rfl _ _ _ _ rfl w1.heap.size 5 1 1 _ et_u8 _ 0 _ [] rfl ((M0 w1).drew) _ _ _ rfl ((SLA.out.ch HA.out (fun _ _ => id)).src Try.underlying27 (bv_one _)) m1 m2 (by simp) ?_
            intro a2 k2 w2 hO hC hN
            rw [List.nil_append, Nat.zero_add] at hO
            have C2 := hid (HA.out.trans hC (fun i hi ⟨b, hb, he⟩ => by cases hb; have : w1.heap.size = i := he; omega))
            have O2 := hid hO
            have D2 := hid (DD.out.ch C2.out id id)
            have R2 := hid (RR.out.ch C2.out id (fun _ _ => id))
            have g2 := C2.out.cell c2 id
            clear hO hC hN
            refine hK _ _ ?_
            clear hK K
            refine wpAny_ready (rs := [5]) (by kernel_rfl) (by simp) ?_
            refine AllReady.cons rfl (fun K hK => ?_) ?_
            · go_simp
              go_wp2_with (go_at_call 12; refine (append_any p q d _ _ _ z.l _ D2.out O2.out.sl).mono ?_; rintro e w3 ⟨rfl, hd3, hc3⟩; have D3 := hid hd3; have C3 := hid (C2.out.dsk PP.out hc3); have R3 := hid (refdsk R2.out PP.out hc3); have g3 := cdsk PP.out GG.out hc3 g2; clear hd3 hc3)
              try (refine hK _ _ ?_; clear hK K)
              refine wpAny_ready (rs := [9]) (by kernel_rfl) (by simp) ?_
              refine AllReady.cons rfl (fun K hK => ?_) ?_
              · go_simp
                go_wp2_with (go_at_call 28; refine (rappend_any s x d _ _ _ z.l _ R3.out (SLB.out _ C3.out) hm).mono ?_; rintro e w4 ⟨rfl, hr4, hc4⟩; have R4 := hid hr4; have D4 := hid (diskrsk D3.out PP.out hc4); have C4 := hid (C3.out.rsk hc4); clear hr4 hc4)
                try (refine hK _ _ ?_; clear hK K)
                refine wpAny_take (i := 10) (v := ?_) rfl (by kernel_rfl) (by kernel_rfl) (by kernel_rfl) (fun _ _ _ h => h) (Or.inl ⟨by rfl, ?_⟩) ?_
                rotate_left
                · intro W_
                  go_simp
                  try with_reducible rfl
                refine wpAny_take (i := 11) (v := ?_) rfl (by kernel_rfl) (by kernel_rfl) (by kernel_rfl) (fun _ _ _ h => h) (Or.inl ⟨by rfl, ?_⟩) ?_
                rotate_left
                · intro W_
                  go_simp
                  try with_reducible rfl
                refine wpAny_done (by kernel_rfl) ?_ _
                go_wp2
                go_ret
                exact ⟨by first | rfl | (simp; done) | (simp; rfl), _, D4.out, R4.out, C1.out.all C4.out⟩
              exact AllReady.nil
            exact AllReady.nil
          exact AllReady.nil
        exact AllReady.nil
      refine AllReady.cons rfl (fun K hK => ?_) ?_
      · go_simp
        refine hK _ _ ?_
        clear hK K
        refine wpAny_ready (rs := [1]) (by kernel_rfl) (by simp) ?_
        refine AllReady.cons rfl (fun K hK => ?_) ?_
        · go_simp
          refine hK _ _ ?_
          clear hK K
          refine wpAny_ready (rs := [4]) (by kernel_rfl) (by simp) ?_
          refine AllReady.cons rfl (fun K hK => ?_) ?_
          · refine step_app2 rfl _ _ _ _ rfl w1.heap.size 5 1 1 _ et_u8 _ 0 _ [] rfl ((M0 w1).drew) _ _ _ rfl ((SLA.out.ch HA.out (fun _ _ => id)).src Try.underlying27 (bv_one _)) m1 m2 (by simp) ?_
            intro a2 k2 w2 hO hC hN
            rw [List.nil_append, Nat.zero_add] at hO
            have C2 := hid (HA.out.trans hC (fun i hi ⟨b, hb, he⟩ => by cases hb; have : w1.heap.size = i := he; omega))
            have O2 := hid hO
            have D2 := hid (DD.out.ch C2.out id id)
            have R2 := hid (RR.out.ch C2.out id (fun _ _ => id))
            have g2 := C2.out.cell c2 id
            clear hO hC hN
            refine hK _ _ ?_
            clear hK K
            refine wpAny_ready (rs := [5]) (by kernel_rfl) (by simp) ?_
            refine AllReady.cons rfl (fun K hK => ?_) ?_
            · go_simp
              go_wp2_with (go_at_call 12; refine (append_any p q d _ _ _ z.l _ D2.out O2.out.sl).mono ?_; rintro e w3 ⟨rfl, hd3, hc3⟩; have D3 := hid hd3; have C3 := hid (C2.out.dsk PP.out hc3); have R3 := hid (refdsk R2.out PP.out hc3); have g3 := cdsk PP.out GG.out hc3 g2; clear hd3 hc3)
              try (refine hK _ _ ?_; clear hK K)
              refine wpAny_ready (rs := [9]) (by kernel_rfl) (by simp) ?_
              refine AllReady.cons rfl (fun K hK => ?_) ?_
              · go_simp
                go_wp2_with (go_at_call 28; refine (rappend_any s x d _ _ _ z.l _ R3.out (SLB.out _ C3.out) hm).mono ?_; rintro e w4 ⟨rfl, hr4, hc4⟩; have R4 := hid hr4; have D4 := hid (diskrsk D3.out PP.out hc4); have C4 := hid (C3.out.rsk hc4); clear hr4 hc4)
                try (refine hK _ _ ?_; clear hK K)
                refine wpAny_take (i := 10) (v := ?_) rfl (by kernel_rfl) (by kernel_rfl) (by kernel_rfl) (fun _ _ _ h => h) (Or.inl ⟨by rfl, ?_⟩) ?_
                rotate_left
                · intro W_
                  go_simp
                  try with_reducible rfl
                refine wpAny_take (i := 11) (v := ?_) rfl (by kernel_rfl) (by kernel_rfl) (by kernel_rfl) (fun _ _ _ h => h) (Or.inl ⟨by rfl, ?_⟩) ?_
                rotate_left
                · intro W_
                  go_simp
                  try with_reducible rfl
                refine wpAny_done (by kernel_rfl) ?_ _
                go_wp2
                go_ret
                exact ⟨by first | rfl | (simp; done) | (simp; rfl), _, D4.out, R4.out, C1.out.all C4.out⟩
              exact AllReady.nil
            exact AllReady.nil
          exact AllReady.nil
        exact AllReady.nil
      exact AllReady.nil
    exact AllReady.nil
  case inr.inr.inl =>
    go_wp2
    refine wp_region_any (by kernel_rfl) ?_
    try (change wpAny _ _ _ _ _ _ _ (World.drew _))
    refine wpAny_take (i := 0) (v := ?_) rfl (by kernel_rfl) (by kernel_rfl) (by kernel_rfl) (fun _ _ _ h => h) (Or.inl ⟨by rfl, ?_⟩) ?_
    rotate_left
    · intro W_
      go_simp
      try with_reducible rfl
    refine wpAny_take (i := 2) (v := ?_) rfl (by kernel_rfl) (by kernel_rfl) (by kernel_rfl) (fun _ _ _ h => h) (Or.inl ⟨by rfl, ?_⟩) ?_
    rotate_left
    · intro W_
      go_simp
      try with_reducible rfl
    refine wpAny_take (i := 6) (v := ?_) rfl (by kernel_rfl) (by kernel_rfl) (by kernel_rfl) (fun _ _ _ h => h) (Or.inl ⟨by rfl, ?_⟩) ?_
    rotate_left
    · intro W_
      go_simp
      try with_reducible rfl
    refine wpAny_take (i := 7) (v := ?_) rfl (by kernel_rfl) (by kernel_rfl) (by kernel_rfl) (fun _ _ _ h => h) (Or.inl ⟨by rfl, ?_⟩) ?_
    rotate_left
    · intro W_
      go_simp
      try with_reducible rfl
    refine wpAny_ready (rs := [1, 3, 8]) (by kernel_rfl) (by simp) ?_
    refine AllReady.cons rfl (fun K hK => ?_) ?_
    · go_simp
      refine hK _ _ ?_
      clear hK K
      refine wpAny_ready (rs := [3, 8]) (by kernel_rfl) (by simp) ?_
      refine AllReady.cons rfl (fun K hK => ?_) ?_
      · go_simp
        refine hK _ _ ?_
        clear hK K
        refine wpAny_ready (rs := [4, 8]) (by kernel_rfl) (by simp) ?_
        refine AllReady.cons rfl (fun K hK => ?_) ?_
        · refine step_app2 rfl _ _ _ _ rfl w1.heap.size 5 1 1 _ et_u8 _ 0 _ [] rfl ((M0 w1).drew) _ _ _ rfl ((SLA.out.ch HA.out (fun _ _ => id)).src Try.underlying27 (bv_one _)) m1 m2 (by simp) ?_
          intro a2 k2 w2 hO hC hN
          rw [List.nil_append, Nat.zero_add] at hO
          have C2 := hid (HA.out.trans hC (fun i hi ⟨b, hb, he⟩ => by cases hb; have : w1.heap.size = i := he; omega))
          have O2 := hid hO
          have D2 := hid (DD.out.ch C2.out id id)
          have R2 := hid (RR.out.ch C2.out id (fun _ _ => id))
          have g2 := C2.out.cell c2 id
          clear hO hC hN
          refine hK _ _ ?_
          clear hK K
          refine wpAny_ready (rs := [5, 8]) (by kernel_rfl) (by simp) ?_
          refine AllReady.cons rfl (fun K hK => ?_) ?_
          · go_simp
            go_wp2_with (go_at_call 12; refine (append_any p q d _ _ _ z.l _ D2.out O2.out.sl).mono ?_; rintro e w3 ⟨rfl, hd3, hc3⟩; have D3 := hid hd3; have C3 := hid (C2.out.dsk PP.out hc3); have R3 := hid (refdsk R2.out PP.out hc3); have g3 := cdsk PP.out GG.out hc3 g2; clear hd3 hc3)
            try (refine hK _ _ ?_; clear hK K)
            refine wpAny_ready (rs := [8]) (by kernel_rfl) (by simp) ?_
            refine AllReady.cons rfl (fun K hK => ?_) ?_
            · go_simp
              refine hK _ _ ?_
              clear hK K
              refine wpAny_ready (rs := [9]) (by kernel_rfl) (by simp) ?_
              refine AllReady.cons rfl (fun K hK => ?_) ?_
              · go_simp
                go_wp2_with (go_at_call 28; refine (rappend_any s x d _ _ _ z.l _ R3.out (SLB.out _ C3.out) hm).mono ?_; rintro e w4 ⟨rfl, hr4, hc4⟩; have R4 := hid hr4; have D4 := hid (diskrsk D3.out PP.out hc4); have C4 := hid (C3.out.rsk hc4); clear hr4 hc4)
                try (refine hK _ _ ?_; clear hK K)
                refine wpAny_take (i := 10) (v := ?_) rfl (by kernel_rfl) (by kernel_rfl) (by kernel_rfl) (fun _ _ _ h => h) (Or.inl ⟨by rfl, ?_⟩) ?_
                rotate_left
                · intro W_
                  go_simp
                  try with_reducible rfl
                refine wpAny_take (i := 11) (v := ?_) rfl (by kernel_rfl) (by kernel_rfl) (by kernel_rfl) (fun _ _ _ h => h) (Or.inl ⟨by rfl, ?_⟩) ?_
                rotate_left
                · intro W_
                  go_simp
                  try with_reducible rfl
                refine wpAny_done (by kernel_rfl) ?_ _
                go_wp2
                go_ret
                exact ⟨by first | rfl | (simp; done) | (simp; rfl), _, D4.out, R4.out, C1.out.all C4.out⟩
              exact AllReady.nil
            exact AllReady.nil
          refine AllReady.cons rfl (fun K hK => ?_) ?_
          · go_simp
            refine hK _ _ ?_
            clear hK K
            refine wpAny_ready (rs := [5]) (by kernel_rfl) (by simp) ?_
            refine AllReady.cons rfl (fun K hK => ?_) ?_
            · go_simp
              go_wp2_with (go_at_call 12; refine (append_any p q d _ _ _ z.l _ D2.out O2.out.sl).mono ?_; rintro e w3 ⟨rfl, hd3, hc3⟩; have D3 := hid hd3; have C3 := hid (C2.out.dsk PP.out hc3); have R3 := hid (refdsk R2.out PP.out hc3); have g3 := cdsk PP.out GG.out hc3 g2; clear hd3 hc3)
              try (refine hK _ _ ?_; clear hK K)
              refine wpAny_ready (rs := [9]) (by kernel_rfl) (by simp) ?_
              refine AllReady.cons rfl (fun K hK => ?_) ?_
              · go_simp
                go_wp2_with (go_at_call 28; refine (rappend_any s x d _ _ _ z.l _ R3.out (SLB.out _ C3.out) hm).mono ?_; rintro e w4 ⟨rfl, hr4, hc4⟩; have R4 := hid hr4; have D4 := hid (diskrsk D3.out PP.out hc4); have C4 := hid (C3.out.rsk hc4); clear hr4 hc4)
                try (refine hK _ _ ?_; clear hK K)
                refine wpAny_take (i := 10) (v := ?_) rfl (by kernel_rfl) (by kernel_rfl) (by kernel_rfl) (fun _ _ _ h => h) (Or.inl ⟨by rfl, ?_⟩) ?_
                rotate_left
                · intro W_
                  go_simp
                  try with_reducible rfl
                refine wpAny_take (i := 11) (v := ?_) rfl (by kernel_rfl) (by kernel_rfl) (by kernel_rfl) (fun _ _ _ h => h) (Or.inl ⟨by rfl, ?_⟩) ?_
                rotate_left
                · intro W_
                  go_simp
                  try with_reducible rfl
                refine wpAny_done (by kernel_rfl) ?_ _
                go_wp2
                go_ret
                exact ⟨by first | rfl | (simp; done) | (simp; rfl), _, D4.out, R4.out, C1.out.all C4.out⟩
              exact AllReady.nil
            exact AllReady.nil
          exact AllReady.nil
        refine AllReady.cons rfl (fun K hK => ?_) ?_
        · go_simp
          refine hK _ _ ?_
          clear hK K
          refine wpAny_ready (rs := [4]) (by kernel_rfl) (by simp) ?_
          refine AllReady.cons rfl (fun K hK => ?_) ?_
          · refine step_app2 rfl _ _ _ _ rfl w1.heap.size 5 1 1 _ et_u8 _ 0 _ [] rfl ((M0 w1).drew) _ _ _ rfl ((SLA.out.ch HA.out (fun _ _ => id)).src Try.underlying27 (bv_one _)) m1 m2 (by simp) ?_
            intro a2 k2 w2 hO hC hN
            rw [List.nil_append, Nat.zero_add] at hO
            have C2 := hid (HA.out.trans hC (fun i hi ⟨b, hb, he⟩ => by cases hb; have : w1.heap.size = i := he; omega))
            have O2 := hid hO
            have D2 := hid (DD.out.ch C2.out id id)
            have R2 := hid (RR.out.ch C2.out id (fun _ _ => id))
            have g2 := C2.out.cell c2 id
            clear hO hC hN
            refine hK _ _ ?_
            clear hK K
            refine wpAny_ready (rs := [5]) (by kernel_rfl) (by simp) ?_
            refine AllReady.cons rfl (fun K hK => ?_) ?_
            · go_simp
              go_wp2_with (go_at_call 12; refine (append_any p q d _ _ _ z.l _ D2.out O2.out.sl).mono ?_; rintro e w3 ⟨rfl, hd3, hc3⟩; have D3 := hid hd3; have C3 := hid (C2.out.dsk PP.out hc3); have R3 := hid (refdsk R2.out PP.out hc3); have g3 := cdsk PP.out GG.out hc3 g2; clear hd3 hc3)
              try (refine hK _ _ ?_; clear hK K)
              refine wpAny_ready (rs := [9]) (by kernel_rfl) (by simp) ?_
              refine AllReady.cons rfl (fun K hK => ?_) ?_
              · go_simp
                go_wp2_with (go_at_call 28; refine (rappend_any s x d _ _ _ z.l _ R3.out (SLB.out _ C3.out) hm).mono ?_; rintro e w4 ⟨rfl, hr4, hc4⟩; have R4 := hid hr4; have D4 := hid (diskrsk D3.out PP.out hc4); have C4 := hid (C3.out.rsk hc4); clear hr4 hc4)
                try (refine hK _ _ ?_; clear hK K)
                refine wpAny_take (i := 10) (v := ?_) rfl (by kernel_rfl) (by kernel_rfl) (by kernel_rfl) (fun _ _ _ h => h) (Or.inl ⟨by rfl, ?_⟩) ?_
                rotate_left
                · intro W_
                  go_simp
                  try with_reducible rfl
                refine wpAny_take (i := 11) (v := ?_) rfl (by kernel_rfl) (by kernel_rfl) (by kernel_rfl) (fun _ _ _ h => h) (Or.inl ⟨by rfl, ?_⟩) ?_
                rotate_left
                · intro W_
                  go_simp
                  try with_reducible rfl
                refine wpAny_done (by kernel_rfl) ?_ _
                go_wp2
                go_ret
                exact ⟨by first | rfl | (simp; done) | (simp; rfl), _, D4.out, R4.out, C1.out.all C4.out⟩
              exact AllReady.nil
            exact AllReady.nil
          exact AllReady.nil
        exact AllReady.nil
      refine AllReady.cons rfl (fun K hK => ?_) ?_
      · go_simp
        refine hK _ _ ?_
        clear hK K
        refine wpAny_ready (rs := [3]) (by kernel_rfl) (by simp) ?_
        refine AllReady.cons rfl (fun K hK => ?_) ?_
        · go_simp
          refine hK _ _ ?_
          clear hK K
          refine wpAny_ready (rs := [4]) (by kernel_rfl) (by simp) ?_
          refine AllReady.cons rfl (fun K hK => ?_) ?_
          · refine step_app2 rfl _ _ _ _ rfl w1.heap.size 5 1 1 _ et_u8 _ 0 _ [] rfl ((M0 w1).drew) _ _ _ rfl ((SLA.out.ch HA.out (fun _ _ => id)).src Try.underlying27 (bv_one _)) m1 m2 (by simp) ?_
            intro a2 k2 w2 hO hC hN
            rw [List.nil_append, Nat.zero_add] at hO
            have C2 := hid (HA.out.trans hC (fun i hi ⟨b, hb, he⟩ => by cases hb; have : w1.heap.size = i := he; omega))
            have O2 := hid hO
            have D2 := hid (DD.out.ch C2.out id id)
            have R2 := hid (RR.out.ch C2.out id (fun _ _ => id))
            have g2 := C2.out.cell c2 id
            clear hO hC hN
            refine hK _ _ ?_
            clear hK K
            refine wpAny_ready (rs := [5]) (by kernel_rfl) (by simp) ?_
            refine AllReady.cons rfl (fun K hK => ?_) ?_
            · go_simp
              go_wp2_with (go_at_call 12; refine (append_any p q d _ _ _ z.l _ D2.out O2.out.sl).mono ?_; rintro e w3 ⟨rfl, hd3, hc3⟩; have D3 := hid hd3; have C3 := hid (C2.out.dsk PP.out hc3); have R3 := hid (refdsk R2.out PP.out hc3); have g3 := cdsk PP.out GG.out hc3 g2; clear hd3 hc3)
              try (refine hK _ _ ?_; clear hK K)
              refine wpAny_ready (rs := [9]) (by kernel_rfl) (by simp) ?_
              refine AllReady.cons rfl (fun K hK => ?_) ?_
              · go_simp
                go_wp2_with (go_at_call 28; refine (rappend_any s x d _ _ _ z.l _ R3.out (SLB.out _ C3.out) hm).mono ?_; rintro e w4 ⟨rfl, hr4, hc4⟩; have R4 := hid hr4; have D4 := hid (diskrsk D3.out PP.out hc4); have C4 := hid (C3.out.rsk hc4); clear hr4 hc4)
                try (refine hK _ _ ?_; clear hK K)
                refine wpAny_take (i := 10) (v := ?_) rfl (by kernel_rfl) (by kernel_rfl) (by kernel_rfl) (fun _ _ _ h => h) (Or.inl ⟨by rfl, ?_⟩) ?_
                rotate_left
                · intro W_
                  go_simp
                  try with_reducible rfl
                refine wpAny_take (i := 11) (v := ?_) rfl (by kernel_rfl) (by kernel_rfl) (by kernel_rfl) (fun _ _ _ h => h) (Or.inl ⟨by rfl, ?_⟩) ?_
                rotate_left
                · intro W_
                  go_simp
                  try with_reducible rfl
                refine wpAny_done (by kernel_rfl) ?_ _
                go_wp2
                go_ret
                exact ⟨by first | rfl | (simp; done) | (simp; rfl), _, D4.out, R4.out, C1.out.all C4.out⟩
              exact AllReady.nil
            exact AllReady.nil
          exact AllReady.nil
        exact AllReady.nil
      exact AllReady.nil
    refine AllReady.cons rfl (fun K hK => ?_) ?_
    · go_simp
      refine hK _ _ ?_
      clear hK K
      refine wpAny_ready (rs := [1, 8]) (by kernel_rfl) (by simp) ?_
      refine AllReady.cons rfl (fun K hK => ?_) ?_
      · go_simp
        refine hK _ _ ?_
        clear hK K
        refine wpAny_ready (rs := [4, 8]) (by kernel_rfl) (by simp) ?_
        refine AllReady.cons rfl (fun K hK => ?_) ?_
        · refine step_app2 rfl _ _ _ _ rfl w1.heap.size 5 1 1 _ et_u8 _ 0 _ [] rfl ((M0 w1).drew) _ _ _ rfl ((SLA.out.ch HA.out (fun _ _ => id)).src Try.underlying27 (bv_one _)) m1 m2 (by simp) ?_
          intro a2 k2 w2 hO hC hN
          rw [List.nil_append, Nat.zero_add] at hO
          have C2 := hid (HA.out.trans hC (fun i hi ⟨b, hb, he⟩ => by cases hb; have : w1.heap.size = i := he; omega))
          have O2 := hid hO
          have D2 := hid (DD.out.ch C2.out id id)
          have R2 := hid (RR.out.ch C2.out id (fun _ _ => id))
          have g2 := C2.out.cell c2 id
          clear hO hC hN
          refine hK _ _ ?_
          clear hK K
          refine wpAny_ready (rs := [5, 8]) (by kernel_rfl) (by simp) ?_
          refine AllReady.cons rfl (fun K hK => ?_) ?_
          · go_simp
            go_wp2_with (go_at_call 12; refine (append_any p q d _ _ _ z.l _ D2.out O2.out.sl).mono ?_; rintro e w3 ⟨rfl, hd3, hc3⟩; have D3 := hid hd3; have C3 := hid (C2.out.dsk PP.out hc3); have R3 := hid (refdsk R2.out PP.out hc3); have g3 := cdsk PP.out GG.out hc3 g2; clear hd3 hc3)
            try (refine hK _ _ ?_; clear hK K)
            refine wpAny_ready (rs := [8]) (by kernel_rfl) (by simp) ?_
            refine AllReady.cons rfl (fun K hK => ?_) ?_
            · go_simp
              refine hK _ _ ?_
              clear hK K
              refine wpAny_ready (rs := [9]) (by kernel_rfl) (by simp) ?_
              refine AllReady.cons rfl (fun K hK => ?_) ?_
              · go_simp
                go_wp2_with (go_at_call 28; refine (rappend_any s x d _ _ _ z.l _ R3.out (SLB.out _ C3.out) hm).mono ?_; rintro e w4 ⟨rfl, hr4, hc4⟩; have R4 := hid hr4; have D4 := hid (diskrsk D3.out PP.out hc4); have C4 := hid (C3.out.rsk hc4); clear hr4 hc4)
                try (refine hK _ _ ?_; clear hK K)
                refine wpAny_take (i := 10) (v := ?_) rfl (by kernel_rfl) (by kernel_rfl) (by kernel_rfl) (fun _ _ _ h => h) (Or.inl ⟨by rfl, ?_⟩) ?_
                rotate_left
                · intro W_
                  go_simp
                  try with_reducible rfl
                refine wpAny_take (i := 11) (v := ?_) rfl (by kernel_rfl) (by kernel_rfl) (by kernel_rfl) (fun _ _ _ h => h) (Or.inl ⟨by rfl, ?_⟩) ?_
                rotate_left
                · intro W_
                  go_simp
                  try with_reducible rfl
                refine wpAny_done (by kernel_rfl) ?_ _
                go_wp2
                go_ret
                exact ⟨by first | rfl | (simp; done) | (simp; rfl), _, D4.out, R4.out, C1.out.all C4.out⟩
              exact AllReady.nil
            exact AllReady.nil
          refine AllReady.cons rfl (fun K hK => ?_) ?_
          · go_simp
            refine hK _ _ ?_
            clear hK K
            refine wpAny_ready (rs := [5]) (by kernel_rfl) (by simp) ?_
            refine AllReady.cons rfl (fun K hK => ?_) ?_
            · go_simp
              go_wp2_with (go_at_call 12; refine (append_any p q d _ _ _ z.l _ D2.out O2.out.sl).mono ?_; rintro e w3 ⟨rfl, hd3, hc3⟩; have D3 := hid hd3; have C3 := hid (C2.out.dsk PP.out hc3); have R3 := hid (refdsk R2.out PP.out hc3); have g3 := cdsk PP.out GG.out hc3 g2; clear hd3 hc3)
              try (refine hK _ _ ?_; clear hK K)
              refine wpAny_ready (rs := [9]) (by kernel_rfl) (by simp) ?_
              refine AllReady.cons rfl (fun K hK => ?_) ?_
              · go_simp
                go_wp2_with (go_at_call 28; refine (rappend_any s x d _ _ _ z.l _ R3.out (SLB.out _ C3.out) hm).mono ?_; rintro e w4 ⟨rfl, hr4, hc4⟩; have R4 := hid hr4; have D4 := hid (diskrsk D3.out PP.out hc4); have C4 := hid (C3.out.rsk hc4); clear hr4 hc4)
                try (refine hK _ _ ?_; clear hK K)
                refine wpAny_take (i := 10) (v := ?_) rfl (by kernel_rfl) (by kernel_rfl) (by kernel_rfl) (fun _ _ _ h => h) (Or.inl ⟨by rfl, ?_⟩) ?_
                rotate_left
                · intro W_
                  go_simp
                  try with_reducible rfl
                refine wpAny_take (i := 11) (v := ?_) rfl (by kernel_rfl) (by kernel_rfl) (by kernel_rfl) (fun _ _ _ h => h) (Or.inl ⟨by rfl, ?_⟩) ?_
                rotate_left
                · intro W_
                  go_simp
                  try with_reducible rfl
                refine wpAny_done (by kernel_rfl) ?_ _
                go_wp2
                go_ret
                exact ⟨by first | rfl | (simp; done) | (simp; rfl), _, D4.out, R4.out, C1.out.all C4.out⟩
              exact AllReady.nil
            exact AllReady.nil
          exact AllReady.nil
        refine AllReady.cons rfl (fun K hK => ?_) ?_
        · go_simp
          refine hK _ _ ?_
          clear hK K
          refine wpAny_ready (rs := [4]) (by kernel_rfl) (by simp) ?_
          refine AllReady.cons rfl (fun K hK => ?_) ?_
          · refine step_app2 rfl _ _ _ _ rfl w1.heap.size 5 1 1 _ et_u8 _ 0 _ [] rfl ((M0 w1).drew) _ _ _ rfl ((SLA.out.ch HA.out (fun _ _ => id)).src Try.underlying27 (bv_one _)) m1 m2 (by simp) ?_
            intro a2 k2 w2 hO hC hN
            rw [List.nil_append, Nat.zero_add] at hO
            have C2 := hid (HA.out.trans hC (fun i hi ⟨b, hb, he⟩ => by cases hb; have : w1.heap.size = i := he; omega))
            have O2 := hid hO
            have D2 := hid (DD.out.ch C2.out id id)
            have R2 := hid (RR.out.ch C2.out id (fun _ _ => id))
            have g2 := C2.out.cell c2 id
            clear hO hC hN
            refine hK _ _ ?_
            clear hK K
            refine wpAny_ready (rs := [5]) (by kernel_rfl) (by simp) ?_
            refine AllReady.cons rfl (fun K hK => ?_) ?_
            · go_simp
              go_wp2_with (go_at_call 12; refine (append_any p q d _ _ _ z.l _ D2.out O2.out.sl).mono ?_; rintro e w3 ⟨rfl, hd3, hc3⟩; have D3 := hid hd3; have C3 := hid (C2.out.dsk PP.out hc3); have R3 := hid (refdsk R2.out PP.out hc3); have g3 := cdsk PP.out GG.out hc3 g2; clear hd3 hc3)
              try (refine hK _ _ ?_; clear hK K)
              refine wpAny_ready (rs := [9]) (by kernel_rfl) (by simp) ?_
              refine AllReady.cons rfl (fun K hK => ?_) ?_
              · go_simp
                go_wp2_with (go_at_call 28; refine (rappend_any s x d _ _ _ z.l _ R3.out (SLB.out _ C3.out) hm).mono ?_; rintro e w4 ⟨rfl, hr4, hc4⟩; have R4 := hid hr4; have D4 := hid (diskrsk D3.out PP.out hc4); have C4 := hid (C3.out.rsk hc4); clear hr4 hc4)
                try (refine hK _ _ ?_; clear hK K)
                refine wpAny_take (i := 10) (v := ?_) rfl (by kernel_rfl) (by kernel_rfl) (by kernel_rfl) (fun _ _ _ h => h) (Or.inl ⟨by rfl, ?_⟩) ?_
                rotate_left
                · intro W_
                  go_simp
                  try with_reducible rfl
                refine wpAny_take (i := 11) (v := ?_) rfl (by kernel_rfl) (by kernel_rfl) (by kernel_rfl) (fun _ _ _ h => h) (Or.inl ⟨by rfl, ?_⟩) ?_
                rotate_left
                · intro W_
                  go_simp
                  try with_reducible rfl
                refine wpAny_done (by kernel_rfl) ?_ _
                go_wp2
                go_ret
                exact ⟨by first | rfl | (simp; done) | (simp; rfl), _, D4.out, R4.out, C1.out.all C4.out⟩
              exact AllReady.nil
            exact AllReady.nil
          exact AllReady.nil
        exact AllReady.nil
      refine AllReady.cons rfl (fun K hK => ?_) ?_
      · go_simp
        refine hK _ _ ?_
        clear hK K
        refine wpAny_ready (rs := [1]) (by kernel_rfl) (by simp) ?_
        refine AllReady.cons rfl (fun K hK => ?_) ?_
        · go_simp
          refine hK _ _ ?_
          clear hK K
          refine wpAny_ready (rs := [4]) (by kernel_rfl) (by simp) ?_
          refine AllReady.cons rfl (fun K hK => ?_) ?_
          · refine step_app2 rfl _ _ _ _ rfl w1.heap.size 5 1 1 _ et_u8 _ 0 _ [] rfl ((M0 w1).drew) _ _ _ rfl ((SLA.out.ch HA.out (fun _ _ => id)).src Try.underlying27 (bv_one _)) m1 m2 (by simp) ?_
            intro a2 k2 w2 hO hC hN
            rw [List.nil_append, Nat.zero_add] at hO
            have C2 := hid (HA.out.trans hC (fun i hi ⟨b, hb, he⟩ => by cases hb; have : w1.heap.size = i := he; omega))
            have O2 := hid hO
            have D2 := hid (DD.out.ch C2.out id id)
            have R2 := hid (RR.out.ch C2.out id (fun _ _ => id))
            have g2 := C2.out.cell c2 id
            clear hO hC hN
            refine hK _ _ ?_
            clear hK K
            refine wpAny_ready (rs := [5]) (by kernel_rfl) (by simp) ?_
            refine AllReady.cons rfl (fun K hK => ?_) ?_
            · go_simp
              go_wp2_with (go_at_call 12; refine (append_any p q d _ _ _ z.l _ D2.out O2.out.sl).mono ?_; rintro e w3 ⟨rfl, hd3, hc3⟩; have D3 := hid hd3; have C3 := hid (C2.out.dsk PP.out hc3); have R3 := hid (refdsk R2.out PP.out hc3); have g3 := cdsk PP.out GG.out hc3 g2; clear hd3 hc3)
              try (refine hK _ _ ?_; clear hK K)
              refine wpAny_ready (rs := [9]) (by kernel_rfl) (by simp) ?_
              refine AllReady.cons rfl (fun K hK => ?_) ?_
              · go_simp
                go_wp2_with (go_at_call 28; refine (rappend_any s x d _ _ _ z.l _ R3.out (SLB.out _ C3.out) hm).mono ?_; rintro e w4 ⟨rfl, hr4, hc4⟩; have R4 := hid hr4; have D4 := hid (diskrsk D3.out PP.out hc4); have C4 := hid (C3.out.rsk hc4); clear hr4 hc4)
                try (refine hK _ _ ?_; clear hK K)
                refine wpAny_take (i := 10) (v := ?_) rfl (by kernel_rfl) (by kernel_rfl) (by kernel_rfl) (fun _ _ _ h => h) (Or.inl ⟨by rfl, ?_⟩) ?_
                rotate_left
                · intro W_
                  go_simp
                  try with_reducible rfl
                refine wpAny_take (i := 11) (v := ?_) rfl (by kernel_rfl) (by kernel_rfl) (by kernel_rfl) (fun _ _ _ h => h) (Or.inl ⟨by rfl, ?_⟩) ?_
                rotate_left
                · intro W_
                  go_simp
                  try with_reducible rfl
                refine wpAny_done (by kernel_rfl) ?_ _
                go_wp2
                go_ret
                exact ⟨by first | rfl | (simp; done) | (simp; rfl), _, D4.out, R4.out, C1.out.all C4.out⟩
              exact AllReady.nil
            exact AllReady.nil
          exact AllReady.nil
        exact AllReady.nil
      exact AllReady.nil
    refine AllReady.cons rfl (fun K hK => ?_) ?_
    · go_simp
      refine hK _ _ ?_
      clear hK K
      refine wpAny_ready (rs := [1, 3]) (by kernel_rfl) (by simp) ?_
      refine AllReady.cons rfl (fun K hK => ?_) ?_
      · go_simp
        refine hK _ _ ?_
        clear hK K
        refine wpAny_ready (rs := [3]) (by kernel_rfl) (by simp) ?_
        refine AllReady.cons rfl (fun K hK => ?_) ?_
        · go_simp
          refine hK _ _ ?_
          clear hK K
          refine wpAny_ready (rs := [4]) (by kernel_rfl) (by simp) ?_
          refine AllReady.cons rfl (fun K hK => ?_) ?_
          · refine step_app2 rfl _ _ _ _ rfl w1.heap.size 5 1 1 _ et_u8 _ 0 _ [] rfl ((M0 w1).drew) _ _ _ rfl ((SLA.out.ch HA.out (fun _ _ => id)).src Try.underlying27 (bv_one _)) m1 m2 (by simp) ?_
            intro a2 k2 w2 hO hC hN
            rw [List.nil_append, Nat.zero_add] at hO
            have C2 := hid (HA.out.trans hC (fun i hi ⟨b, hb, he⟩ => by cases hb; have : w1.heap.size = i := he; omega))
            have O2 := hid hO
            have D2 := hid (DD.out.ch C2.out id id)
            have R2 := hid (RR.out.ch C2.out id (fun _ _ => id))
            have g2 := C2.out.cell c2 id
            clear hO hC hN
            refine hK _ _ ?_
            clear hK K
            refine wpAny_ready (rs := [5]) (by kernel_rfl) (by simp) ?_
            refine AllReady.cons rfl (fun K hK => ?_) ?_
            · go_simp
              go_wp2_with (go_at_call 12; refine (append_any p q d _ _ _ z.l _ D2.out O2.out.sl).mono ?_; rintro e w3 ⟨rfl, hd3, hc3⟩; have D3 := hid hd3; have C3 := hid (C2.out.dsk PP.out hc3); have R3 := hid (refdsk R2.out PP.out hc3); have g3 := cdsk PP.out GG.out hc3 g2; clear hd3 hc3)
              try (refine hK _ _ ?_; clear hK K)
              refine wpAny_ready (rs := [9]) (by kernel_rfl) (by simp) ?_
              refine AllReady.cons rfl (fun K hK => ?_) ?_
              · go_simp
                go_wp2_with (go_at_call 28; refine (rappend_any s x d _ _ _ z.l _ R3.out (SLB.out _ C3.out) hm).mono ?_; rintro e w4 ⟨rfl, hr4, hc4⟩; have R4 := hid hr4; have D4 := hid (diskrsk D3.out PP.out hc4); have C4 := hid (C3.out.rsk hc4); clear hr4 hc4)
                try (refine hK _ _ ?_; clear hK K)
                refine wpAny_take (i := 10) (v := ?_) rfl (by kernel_rfl) (by kernel_rfl) (by kernel_rfl) (fun _ _ _ h => h) (Or.inl ⟨by rfl, ?_⟩) ?_
                rotate_left
                · intro W_
                  go_simp
                  try with_reducible rfl
                refine wpAny_take (i := 11) (v := ?_) rfl (by kernel_rfl) (by kernel_rfl) (by kernel_rfl) (fun _ _ _ h => h) (Or.inl ⟨by rfl, ?_⟩) ?_
                rotate_left
                · intro W_
                  go_simp
                  try with_reducible rfl
                refine wpAny_done (by kernel_rfl) ?_ _
                go_wp2
                go_ret
                exact ⟨by first | rfl | (simp; done) | (simp; rfl), _, D4.out, R4.out, C1.out.all C4.out⟩
              exact AllReady.nil
            exact AllReady.nil
          exact AllReady.nil
        exact AllReady.nil
      refine AllReady.cons rfl (fun K hK => ?_) ?_
      · go_simp
        refine hK _ _ ?_
        clear hK K
        refine wpAny_ready (rs := [1]) (by kernel_rfl) (by simp) ?_
        refine AllReady.cons rfl (fun K hK => ?_) ?_
        · go_simp
          refine hK _ _ ?_
          clear hK K
          refine wpAny_ready (rs := [4]) (by kernel_rfl) (by simp) ?_
          refine AllReady.cons rfl (fun K hK => ?_) ?_
          · refine step_app2 rfl _ _ _ _ rfl w1.heap.size 5 1 1 _ et_u8 _ 0 _ [] rfl ((M0 w1).drew) _ _ _ rfl ((SLA.out.ch HA.out (fun _ _ => id)).src Try.underlying27 (bv_one _)) m1 m2 (by simp) ?_
            intro a2 k2 w2 hO hC hN
            rw [List.nil_append, Nat.zero_add] at hO
            have C2 := hid (HA.out.trans hC (fun i hi ⟨b, hb, he⟩ => by cases hb; have : w1.heap.size = i := he; omega))
            have O2 := hid hO
            have D2 := hid (DD.out.ch C2.out id id)
            have R2 := hid (RR.out.ch C2.out id (fun _ _ => id))
            have g2 := C2.out.cell c2 id
            clear hO hC hN
            refine hK _ _ ?_
            clear hK K
            refine wpAny_ready (rs := [5]) (by kernel_rfl) (by simp) ?_
            refine AllReady.cons rfl (fun K hK => ?_) ?_
            · go_simp
              go_wp2_with (go_at_call 12; refine (append_any p q d _ _ _ z.l _ D2.out O2.out.sl).mono ?_; rintro e w3 ⟨rfl, hd3, hc3⟩; have D3 := hid hd3; have C3 := hid (C2.out.dsk PP.out hc3); have R3 := hid (refdsk R2.out PP.out hc3); have g3 := cdsk PP.out GG.out hc3 g2; clear hd3 hc3)
              try (refine hK _ _ ?_; clear hK K)
              refine wpAny_ready (rs := [9]) (by kernel_rfl) (by simp) ?_
              refine AllReady.cons rfl (fun K hK => ?_) ?_
              · go_simp
                go_wp2_with (go_at_call 28; refine (rappend_any s x d _ _ _ z.l _ R3.out (SLB.out _ C3.out) hm).mono ?_; rintro e w4 ⟨rfl, hr4, hc4⟩; have R4 := hid hr4; have D4 := hid (diskrsk D3.out PP.out hc4); have C4 := hid (C3.out.rsk hc4); clear hr4 hc4)
                try (refine hK _ _ ?_; clear hK K)
                refine wpAny_take (i := 10) (v := ?_) rfl (by kernel_rfl) (by kernel_rfl) (by kernel_rfl) (fun _ _ _ h => h) (Or.inl ⟨by rfl, ?_⟩) ?_
                rotate_left
                · intro W_
                  go_simp
                  try with_reducible rfl
                refine wpAny_take (i := 11) (v := ?_) rfl (by kernel_rfl) (by kernel_rfl) (by kernel_rfl) (fun _ _ _ h => h) (Or.inl ⟨by rfl, ?_⟩) ?_
                rotate_left
                · intro W_
                  go_simp
                  try with_reducible rfl
                refine wpAny_done (by kernel_rfl) ?_ _
                go_wp2
                go_ret
                exact ⟨by first | rfl | (simp; done) | (simp; rfl), _, D4.out, R4.out, C1.out.all C4.out⟩
              exact AllReady.nil
            exact AllReady.nil
          exact AllReady.nil
        exact AllReady.nil
      exact AllReady.nil
    exact AllReady.nil
  case inr.inr.inr.inl =>
    go_wp2
    refine wp_region_any (by kernel_rfl) ?_
    try (change wpAny _ _ _ _ _ _ _ (World.drew _))
    refine wpAny_take (i := 0) (v := ?_) rfl (by kernel_rfl) (by kernel_rfl) (by kernel_rfl) (fun _ _ _ h => h) (Or.inl ⟨by rfl, ?_⟩) ?_
    rotate_left
    · intro W_
      go_simp
      try with_reducible rfl
    refine wpAny_take (i := 2) (v := ?_) rfl (by kernel_rfl) (by kernel_rfl) (by kernel_rfl) (fun _ _ _ h => h) (Or.inl ⟨by rfl, ?_⟩) ?_
    rotate_left
    · intro W_
      go_simp
      try with_reducible rfl
    refine wpAny_take (i := 6) (v := ?_) rfl (by kernel_rfl) (by kernel_rfl) (by kernel_rfl) (fun _ _ _ h => h) (Or.inl ⟨by rfl, ?_⟩) ?_
    rotate_left
    · intro W_
      go_simp
      try with_reducible rfl
    refine wpAny_take (i := 7) (v := ?_) rfl (by kernel_rfl) (by kernel_rfl) (by kernel_rfl) (fun _ _ _ h => h) (Or.inl ⟨by rfl, ?_⟩) ?_
    rotate_left
    · intro W_
      go_simp
      try with_reducible rfl
    refine wpAny_ready (rs := [1, 3, 8]) (by kernel_rfl) (by simp) ?_
    refine AllReady.cons rfl (fun K hK => ?_) ?_
    · go_simp
      refine hK _ _ ?_
      clear hK K
      refine wpAny_ready (rs := [3, 8]) (by kernel_rfl) (by simp) ?_
      refine AllReady.cons rfl (fun K hK => ?_) ?_
      · go_simp
        refine hK _ _ ?_
        clear hK K
        refine wpAny_ready (rs := [4, 8]) (by kernel_rfl) (by simp) ?_
        refine AllReady.cons rfl (fun K hK => ?_) ?_
        · refine step_app2 rfl _ _ _ _ rfl w1.heap.size 5 1 1 _ et_u8 _ 0 _ [] rfl ((M0 w1).drew) _ _ _ rfl ((SLA.out.ch HA.out (fun _ _ => id)).src Try.underlying27 (bv_one _)) m1 m2 (by simp) ?_
          intro a2 k2 w2 hO hC hN
          rw [List.nil_append, Nat.zero_add] at hO
          have C2 := hid (HA.out.trans hC (fun i hi ⟨b, hb, he⟩ => by cases hb; have : w1.heap.size = i := he; omega))
          have O2 := hid hO
          have D2 := hid (DD.out.ch C2.out id id)
          have R2 := hid (RR.out.ch C2.out id (fun _ _ => id))
          have g2 := C2.out.cell c2 id
          clear hO hC hN
          refine hK _ _ ?_
          clear hK K
          refine wpAny_ready (rs := [5, 8]) (by kernel_rfl) (by simp) ?_
          refine AllReady.cons rfl (fun K hK => ?_) ?_
          · go_simp
            go_wp2_with (go_at_call 12; refine (append_any p q d _ _ _ z.l _ D2.out O2.out.sl).mono ?_; rintro e w3 ⟨rfl, hd3, hc3⟩; have D3 := hid hd3; have C3 := hid (C2.out.dsk PP.out hc3); have R3 := hid (refdsk R2.out PP.out hc3); have g3 := cdsk PP.out GG.out hc3 g2; clear hd3 hc3)
            try (refine hK _ _ ?_; clear hK K)
            refine wpAny_ready (rs := [8]) (by kernel_rfl) (by simp) ?_
            refine AllReady.cons rfl (fun K hK => ?_) ?_
            · go_simp
              refine hK _ _ ?_
              clear hK K
              refine wpAny_ready (rs := [9]) (by kernel_rfl) (by simp) ?_
              refine AllReady.cons rfl (fun K hK => ?_) ?_
              · go_simp
                go_wp2_with (go_at_call 28; refine (rappend_any s x d _ _ _ z.l _ R3.out (SLB.out _ C3.out) hm).mono ?_; rintro e w4 ⟨rfl, hr4, hc4⟩; have R4 := hid hr4; have D4 := hid (diskrsk D3.out PP.out hc4); have C4 := hid (C3.out.rsk hc4); clear hr4 hc4)
                try (refine hK _ _ ?_; clear hK K)
                refine wpAny_take (i := 10) (v := ?_) rfl (by kernel_rfl) (by kernel_rfl) (by kernel_rfl) (fun _ _ _ h => h) (Or.inl ⟨by rfl, ?_⟩) ?_
                rotate_left
                · intro W_
                  go_simp
                  try with_reducible rfl
                refine wpAny_take (i := 11) (v := ?_) rfl (by kernel_rfl) (by kernel_rfl) (by kernel_rfl) (fun _ _ _ h => h) (Or.inl ⟨by rfl, ?_⟩) ?_
                rotate_left
                · intro W_
                  go_simp
                  try with_reducible rfl
                refine wpAny_done (by kernel_rfl) ?_ _
                go_wp2
                go_ret
                exact ⟨by first | rfl | (simp; done) | (simp; rfl), _, D4.out, R4.out, C1.out.all C4.out⟩
              exact AllReady.nil
            exact AllReady.nil
          refine AllReady.cons rfl (fun K hK => ?_) ?_
          · go_simp
            refine hK _ _ ?_
            clear hK K
            refine wpAny_ready (rs := [5]) (by kernel_rfl) (by simp) ?_
            refine AllReady.cons rfl (fun K hK => ?_) ?_
            · go_simp
              go_wp2_with (go_at_call 12; refine (append_any p q d _ _ _ z.l _ D2.out O2.out.sl).mono ?_; rintro e w3 ⟨rfl, hd3, hc3⟩; have D3 := hid hd3; have C3 := hid (C2.out.dsk PP.out hc3); have R3 := hid (refdsk R2.out PP.out hc3); have g3 := cdsk PP.out GG.out hc3 g2; clear hd3 hc3)
              try (refine hK _ _ ?_; clear hK K)
              refine wpAny_ready (rs := [9]) (by kernel_rfl) (by simp) ?_
              refine AllReady.cons rfl (fun K hK => ?_) ?_
              · go_simp
                go_wp2_with (go_at_call 28; refine (rappend_any s x d _ _ _ z.l _ R3.out (SLB.out _ C3.out) hm).mono ?_; rintro e w4 ⟨rfl, hr4, hc4⟩; have R4 := hid hr4; have D4 := hid (diskrsk D3.out PP.out hc4); have C4 := hid (C3.out.rsk hc4); clear hr4 hc4)
                try (refine hK _ _ ?_; clear hK K)
                refine wpAny_take (i := 10) (v := ?_) rfl (by kernel_rfl) (by kernel_rfl) (by kernel_rfl) (fun _ _ _ h => h) (Or.inl ⟨by rfl, ?_⟩) ?_
                rotate_left
                · intro W_
                  go_simp
                  try with_reducible rfl
                refine wpAny_take (i := 11) (v := ?_) rfl (by kernel_rfl) (by kernel_rfl) (by kernel_rfl) (fun _ _ _ h => h) (Or.inl ⟨by rfl, ?_⟩) ?_
                rotate_left
                · intro W_
                  go_simp
                  try with_reducible rfl
                refine wpAny_done (by kernel_rfl) ?_ _
                go_wp2
                go_ret
                exact ⟨by first | rfl | (simp; done) | (simp; rfl), _, D4.out, R4.out, C1.out.all C4.out⟩
              exact AllReady.nil
            exact AllReady.nil
          exact AllReady.nil
        refine AllReady.cons rfl (fun K hK => ?_) ?_
        · go_simp
          refine hK _ _ ?_
          clear hK K
          refine wpAny_ready (rs := [4]) (by kernel_rfl) (by simp) ?_
          refine AllReady.cons rfl (fun K hK => ?_) ?_
          · refine step_app2 rfl _ _ _ _ rfl w1.heap.size 5 1 1 _ et_u8 _ 0 _ [] rfl ((M0 w1).drew) _ _ _ rfl ((SLA.out.ch HA.out (fun _ _ => id)).src Try.underlying27 (bv_one _)) m1 m2 (by simp) ?_
            intro a2 k2 w2 hO hC hN
            rw [List.nil_append, Nat.zero_add] at hO
            have C2 := hid (HA.out.trans hC (fun i hi ⟨b, hb, he⟩ => by cases hb; have : w1.heap.size = i := he; omega))
            have O2 := hid hO
            have D2 := hid (DD.out.ch C2.out id id)
            have R2 := hid (RR.out.ch C2.out id (fun _ _ => id))
            have g2 := C2.out.cell c2 id
            clear hO hC hN
            refine hK _ _ ?_
            clear hK K
            refine wpAny_ready (rs := [5]) (by kernel_rfl) (by simp) ?_
            refine AllReady.cons rfl (fun K hK => ?_) ?_
            · go_simp
              go_wp2_with (go_at_call 12; refine (append_any p q d _ _ _ z.l _ D2.out O2.out.sl).mono ?_; rintro e w3 ⟨rfl, hd3, hc3⟩; have D3 := hid hd3; have C3 := hid (C2.out.dsk PP.out hc3); have R3 := hid (refdsk R2.out PP.out hc3); have g3 := cdsk PP.out GG.out hc3 g2; clear hd3 hc3)
              try (refine hK _ _ ?_; clear hK K)
              refine wpAny_ready (rs := [9]) (by kernel_rfl) (by simp) ?_
              refine AllReady.cons rfl (fun K hK => ?_) ?_
              · go_simp
                go_wp2_with (go_at_call 28; refine (rappend_any s x d _ _ _ z.l _ R3.out (SLB.out _ C3.out) hm).mono ?_; rintro e w4 ⟨rfl, hr4, hc4⟩; have R4 := hid hr4; have D4 := hid (diskrsk D3.out PP.out hc4); have C4 := hid (C3.out.rsk hc4); clear hr4 hc4)
                try (refine hK _ _ ?_; clear hK K)
                refine wpAny_take (i := 10) (v := ?_) rfl (by kernel_rfl) (by kernel_rfl) (by kernel_rfl) (fun _ _ _ h => h) (Or.inl ⟨by rfl, ?_⟩) ?_
                rotate_left
                · intro W_
                  go_simp
                  try with_reducible rfl
                refine wpAny_take (i := 11) (v := ?_) rfl (by kernel_rfl) (by kernel_rfl) (by kernel_rfl) (fun _ _ _ h => h) (Or.inl ⟨by rfl, ?_⟩) ?_
                rotate_left
                · intro W_
                  go_simp
                  try with_reducible rfl
                refine wpAny_done (by kernel_rfl) ?_ _
                go_wp2
                go_ret
                exact ⟨by first | rfl | (simp; done) | (simp; rfl), _, D4.out, R4.out, C1.out.all C4.out⟩
              exact AllReady.nil
            exact AllReady.nil
          exact AllReady.nil
        exact AllReady.nil
      refine AllReady.cons rfl (fun K hK => ?_) ?_
      · go_simp
        refine hK _ _ ?_
        clear hK K
        refine wpAny_ready (rs := [3]) (by kernel_rfl) (by simp) ?_
        refine AllReady.cons rfl (fun K hK => ?_) ?_
        · go_simp
          refine hK _ _ ?_
          clear hK K
          refine wpAny_ready (rs := [4]) (by kernel_rfl) (by simp) ?_
          refine AllReady.cons rfl (fun K hK => ?_) ?_
          · refine step_app2 rfl _ _ _ _ rfl w1.heap.size 5 1 1 _ et_u8 _ 0 _ [] rfl ((M0 w1).drew) _ _ _ rfl ((SLA.out.ch HA.out (fun _ _ => id)).src Try.underlying27 (bv_one _)) m1 m2 (by simp) ?_
            intro a2 k2 w2 hO hC hN
            rw [List.nil_append, Nat.zero_add] at hO
            have C2 := hid (HA.out.trans hC (fun i hi ⟨b, hb, he⟩ => by cases hb; have : w1.heap.size = i := he; omega))
            have O2 := hid hO
            have D2 := hid (DD.out.ch C2.out id id)
            have R2 := hid (RR.out.ch C2.out id (fun _ _ => id))
            have g2 := C2.out.cell c2 id
            clear hO hC hN
            refine hK _ _ ?_
            clear hK K
            refine wpAny_ready (rs := [5]) (by kernel_rfl) (by simp) ?_
            refine AllReady.cons rfl (fun K hK => ?_) ?_
            · go_simp
              go_wp2_with (go_at_call 12; refine (append_any p q d _ _ _ z.l _ D2.out O2.out.sl).mono ?_; rintro e w3 ⟨rfl, hd3, hc3⟩; have D3 := hid hd3; have C3 := hid (C2.out.dsk PP.out hc3); have R3 := hid (refdsk R2.out PP.out hc3); have g3 := cdsk PP.out GG.out hc3 g2; clear hd3 hc3)
              try (refine hK _ _ ?_; clear hK K)
              refine wpAny_ready (rs := [9]) (by kernel_rfl) (by simp) ?_
              refine AllReady.cons rfl (fun K hK => ?_) ?_
              · go_simp
                go_wp2_with (go_at_call 28; refine (rappend_any s x d _ _ _ z.l _ R3.out (SLB.out _ C3.out) hm).mono ?_; rintro e w4 ⟨rfl, hr4, hc4⟩; have R4 := hid hr4; have D4 := hid (diskrsk D3.out PP.out hc4); have C4 := hid (C3.out.rsk hc4); clear hr4 hc4)
                try (refine hK _ _ ?_; clear hK K)
                refine wpAny_take (i := 10) (v := ?_) rfl (by kernel_rfl) (by kernel_rfl) (by kernel_rfl) (fun _ _ _ h => h) (Or.inl ⟨by rfl, ?_⟩) ?_
                rotate_left
                · intro W_
                  go_simp
                  try with_reducible rfl
                refine wpAny_take (i := 11) (v := ?_) rfl (by kernel_rfl) (by kernel_rfl) (by kernel_rfl) (fun _ _ _ h => h) (Or.inl ⟨by rfl, ?_⟩) ?_
                rotate_left
                · intro W_
                  go_simp
                  try with_reducible rfl
                refine wpAny_done (by kernel_rfl) ?_ _
                go_wp2
                go_ret
                exact ⟨by first | rfl | (simp; done) | (simp; rfl), _, D4.out, R4.out, C1.out.all C4.out⟩
              exact AllReady.nil
            exact AllReady.nil
          exact AllReady.nil
        exact AllReady.nil
      exact AllReady.nil
    refine AllReady.cons rfl (fun K hK => ?_) ?_
    · go_simp
      refine hK _ _ ?_
      clear hK K
      refine wpAny_ready (rs := [1, 8]) (by kernel_rfl) (by simp) ?_
      refine AllReady.cons rfl (fun K hK => ?_) ?_
      · go_simp
        refine hK _ _ ?_
        clear hK K
        refine wpAny_ready (rs := [4, 8]) (by kernel_rfl) (by simp) ?_
        refine AllReady.cons rfl (fun K hK => ?_) ?_
        · refine step_app2 rfl _ _ _ _ rfl w1.heap.size 5 1 1 _ et_u8 _ 0 _ [] rfl ((M0 w1).drew) _ _ _ rfl ((SLA.out.ch HA.out (fun _ _ => id)).src Try.underlying27 (bv_one _)) m1 m2 (by simp) ?_
          intro a2 k2 w2 hO hC hN
          rw [List.nil_append, Nat.zero_add] at hO
          have C2 := hid (HA.out.trans hC (fun i hi ⟨b, hb, he⟩ => by cases hb; have : w1.heap.size = i := he; omega))
          have O2 := hid hO
          have D2 := hid (DD.out.ch C2.out id id)
          have R2 := hid (RR.out.ch C2.out id (fun _ _ => id))
          have g2 := C2.out.cell c2 id
          clear hO hC hN
          refine hK _ _ ?_
          clear hK K
          refine wpAny_ready (rs := [5, 8]) (by kernel_rfl) (by simp) ?_
          refine AllReady.cons rfl (fun K hK => ?_) ?_
          · go_simp
            go_wp2_with (go_at_call 12; refine (append_any p q d _ _ _ z.l _ D2.out O2.out.sl).mono ?_; rintro e w3 ⟨rfl, hd3, hc3⟩; have D3 := hid hd3; have C3 := hid (C2.out.dsk PP.out hc3); have R3 := hid (refdsk R2.out PP.out hc3); have g3 := cdsk PP.out GG.out hc3 g2; clear hd3 hc3)
            try (refine hK _ _ ?_; clear hK K)
            refine wpAny_ready (rs := [8]) (by kernel_rfl) (by simp) ?_
            refine AllReady.cons rfl (fun K hK => ?_) ?_
            · go_simp
              refine hK _ _ ?_
              clear hK K
              refine wpAny_ready (rs := [9]) (by kernel_rfl) (by simp) ?_
              refine AllReady.cons rfl (fun K hK => ?_) ?_
              · go_simp
                go_wp2_with (go_at_call 28; refine (rappend_any s x d _ _ _ z.l _ R3.out (SLB.out _ C3.out) hm).mono ?_; rintro e w4 ⟨rfl, hr4, hc4⟩; have R4 := hid hr4; have D4 := hid (diskrsk D3.out PP.out hc4); have C4 := hid (C3.out.rsk hc4); clear hr4 hc4)
                try (refine hK _ _ ?_; clear hK K)
                refine wpAny_take (i := 10) (v := ?_) rfl (by kernel_rfl) (by kernel_rfl) (by kernel_rfl) (fun _ _ _ h => h) (Or.inl ⟨by rfl, ?_⟩) ?_
                rotate_left
                · intro W_
                  go_simp
                  try with_reducible rfl
                refine wpAny_take (i := 11) (v := ?_) rfl (by kernel_rfl) (by kernel_rfl) (by kernel_rfl) (fun _ _ _ h => h) (Or.inl ⟨by rfl, ?_⟩) ?_
                rotate_left
                · intro W_
                  go_simp
                  try with_reducible rfl
                refine wpAny_done (by kernel_rfl) ?_ _
                go_wp2
                go_ret
                exact ⟨by first | rfl | (simp; done) | (simp; rfl), _, D4.out, R4.out, C1.out.all C4.out⟩
              exact AllReady.nil
            exact AllReady.nil
          refine AllReady.cons rfl (fun K hK => ?_) ?_
          · go_simp
            refine hK _ _ ?_
            clear hK K
            refine wpAny_ready (rs := [5]) (by kernel_rfl) (by simp) ?_
            refine AllReady.cons rfl (fun K hK => ?_) ?_
            · go_simp
              go_wp2_with (go_at_call 12; refine (append_any p q d _ _ _ z.l _ D2.out O2.out.sl).mono ?_; rintro e w3 ⟨rfl, hd3, hc3⟩; have D3 := hid hd3; have C3 := hid (C2.out.dsk PP.out hc3); have R3 := hid (refdsk R2.out PP.out hc3); have g3 := cdsk PP.out GG.out hc3 g2; clear hd3 hc3)
              try (refine hK _ _ ?_; clear hK K)
              refine wpAny_ready (rs := [9]) (by kernel_rfl) (by simp) ?_
              refine AllReady.cons rfl (fun K hK => ?_) ?_
              · go_simp
                go_wp2_with (go_at_call 28; refine (rappend_any s x d _ _ _ z.l _ R3.out (SLB.out _ C3.out) hm).mono ?_; rintro e w4 ⟨rfl, hr4, hc4⟩; have R4 := hid hr4; have D4 := hid (diskrsk D3.out PP.out hc4); have C4 := hid (C3.out.rsk hc4); clear hr4 hc4)
                try (refine hK _ _ ?_; clear hK K)
                refine wpAny_take (i := 10) (v := ?_) rfl (by kernel_rfl) (by kernel_rfl) (by kernel_rfl) (fun _ _ _ h => h) (Or.inl ⟨by rfl, ?_⟩) ?_
                rotate_left
                · intro W_
                  go_simp
                  try with_reducible rfl
                refine wpAny_take (i := 11) (v := ?_) rfl (by kernel_rfl) (by kernel_rfl) (by kernel_rfl) (fun _ _ _ h => h) (Or.inl ⟨by rfl, ?_⟩) ?_
                rotate_left
                · intro W_
                  go_simp
                  try with_reducible rfl
                refine wpAny_done (by kernel_rfl) ?_ _
                go_wp2
                go_ret
                exact ⟨by first | rfl | (simp; done) | (simp; rfl), _, D4.out, R4.out, C1.out.all C4.out⟩
              exact AllReady.nil
            exact AllReady.nil
          exact AllReady.nil
        refine AllReady.cons rfl (fun K hK => ?_) ?_
        · go_simp
          refine hK _ _ ?_
          clear hK K
          refine wpAny_ready (rs := [4]) (by kernel_rfl) (by simp) ?_
          refine AllReady.cons rfl (fun K hK => ?_) ?_
          · refine step_app2 rfl _ _ _ _ rfl w1.heap.size 5 1 1 _ et_u8 _ 0 _ [] rfl ((M0 w1).drew) _ _ _ rfl ((SLA.out.ch HA.out (fun _ _ => id)).src Try.underlying27 (bv_one _)) m1 m2 (by simp) ?_
            intro a2 k2 w2 hO hC hN
            rw [List.nil_append, Nat.zero_add] at hO
            have C2 := hid (HA.out.trans hC (fun i hi ⟨b, hb, he⟩ => by cases hb; have : w1.heap.size = i := he; omega))
            have O2 := hid hO
            have D2 := hid (DD.out.ch C2.out id id)
            have R2 := hid (RR.out.ch C2.out id (fun _ _ => id))
            have g2 := C2.out.cell c2 id
            clear hO hC hN
            refine hK _ _ ?_
            clear hK K
            refine wpAny_ready (rs := [5]) (by kernel_rfl) (by simp) ?_
            refine AllReady.cons rfl (fun K hK => ?_) ?_
            · go_simp
              go_wp2_with (go_at_call 12; refine (append_any p q d _ _ _ z.l _ D2.out O2.out.sl).mono ?_; rintro e w3 ⟨rfl, hd3, hc3⟩; have D3 := hid hd3; have C3 := hid (C2.out.dsk PP.out hc3); have R3 := hid (refdsk R2.out PP.out hc3); have g3 := cdsk PP.out GG.out hc3 g2; clear hd3 hc3)
              try (refine hK _ _ ?_; clear hK K)
              refine wpAny_ready (rs := [9]) (by kernel_rfl) (by simp) ?_
              refine AllReady.cons rfl (fun K hK => ?_) ?_
              · go_simp
                go_wp2_with (go_at_call 28; refine (rappend_any s x d _ _ _ z.l _ R3.out (SLB.out _ C3.out) hm).mono ?_; rintro e w4 ⟨rfl, hr4, hc4⟩; have R4 := hid hr4; have D4 := hid (diskrsk D3.out PP.out hc4); have C4 := hid (C3.out.rsk hc4); clear hr4 hc4)
                try (refine hK _ _ ?_; clear hK K)
                refine wpAny_take (i := 10) (v := ?_) rfl (by kernel_rfl) (by kernel_rfl) (by kernel_rfl) (fun _ _ _ h => h) (Or.inl ⟨by rfl, ?_⟩) ?_
                rotate_left
                · intro W_
                  go_simp
                  try with_reducible rfl
                refine wpAny_take (i := 11) (v := ?_) rfl (by kernel_rfl) (by kernel_rfl) (by kernel_rfl) (fun _ _ _ h => h) (Or.inl ⟨by rfl, ?_⟩) ?_
                rotate_left
                · intro W_
                  go_simp
                  try with_reducible rfl
                refine wpAny_done (by kernel_rfl) ?_ _
                go_wp2
                go_ret
                exact ⟨by first | rfl | (simp; done) | (simp; rfl), _, D4.out, R4.out, C1.out.all C4.out⟩
              exact AllReady.nil
            exact AllReady.nil
          exact AllReady.nil
        exact AllReady.nil
      refine AllReady.cons rfl (fun K hK => ?_) ?_
      · go_simp
        refine hK _ _ ?_
        clear hK K
        refine wpAny_ready (rs := [1]) (by kernel_rfl) (by simp) ?_
        refine AllReady.cons rfl (fun K hK => ?_) ?_
        · go_simp
          refine hK _ _ ?_
          clear hK K
          refine wpAny_ready (rs := [4]) (by kernel_rfl) (by simp) ?_
          refine AllReady.cons rfl (fun K hK => ?_) ?_
          · refine step_app2 rfl _ _ _ _ rfl w1.heap.size 5 1 1 _ et_u8 _ 0 _ [] rfl ((M0 w1).drew) _ _ _ rfl ((SLA.out.ch HA.out (fun _ _ => id)).src Try.underlying27 (bv_one _)) m1 m2 (by simp) ?_
            intro a2 k2 w2 hO hC hN
            rw [List.nil_append, Nat.zero_add] at hO
            have C2 := hid (HA.out.trans hC (fun i hi ⟨b, hb, he⟩ => by cases hb; have : w1.heap.size = i := he; omega))
            have O2 := hid hO
            have D2 := hid (DD.out.ch C2.out id id)
            have R2 := hid (RR.out.ch C2.out id (fun _ _ => id))
            have g2 := C2.out.cell c2 id
            clear hO hC hN
            refine hK _ _ ?_
            clear hK K
            refine wpAny_ready (rs := [5]) (by kernel_rfl) (by simp) ?_
            refine AllReady.cons rfl (fun K hK => ?_) ?_
            · go_simp
              go_wp2_with (go_at_call 12; refine (append_any p q d _ _ _ z.l _ D2.out O2.out.sl).mono ?_; rintro e w3 ⟨rfl, hd3, hc3⟩; have D3 := hid hd3; have C3 := hid (C2.out.dsk PP.out hc3); have R3 := hid (refdsk R2.out PP.out hc3); have g3 := cdsk PP.out GG.out hc3 g2; clear hd3 hc3)
              try (refine hK _ _ ?_; clear hK K)
              refine wpAny_ready (rs := [9]) (by kernel_rfl) (by simp) ?_
              refine AllReady.cons rfl (fun K hK => ?_) ?_
              · go_simp
                go_wp2_with (go_at_call 28; refine (rappend_any s x d _ _ _ z.l _ R3.out (SLB.out _ C3.out) hm).mono ?_; rintro e w4 ⟨rfl, hr4, hc4⟩; have R4 := hid hr4; have D4 := hid (diskrsk D3.out PP.out hc4); have C4 := hid (C3.out.rsk hc4); clear hr4 hc4)
                try (refine hK _ _ ?_; clear hK K)
                refine wpAny_take (i := 10) (v := ?_) rfl (by kernel_rfl) (by kernel_rfl) (by kernel_rfl) (fun _ _ _ h => h) (Or.inl ⟨by rfl, ?_⟩) ?_
                rotate_left
                · intro W_
                  go_simp
                  try with_reducible rfl
                refine wpAny_take (i := 11) (v := ?_) rfl (by kernel_rfl) (by kernel_rfl) (by kernel_rfl) (fun _ _ _ h => h) (Or.inl ⟨by rfl, ?_⟩) ?_
                rotate_left
                · intro W_
                  go_simp
                  try with_reducible rfl
                refine wpAny_done (by kernel_rfl) ?_ _
                go_wp2
                go_ret
                exact ⟨by first | rfl | (simp; done) | (simp; rfl), _, D4.out, R4.out, C1.out.all C4.out⟩
              exact AllReady.nil
            exact AllReady.nil
          exact AllReady.nil
        exact AllReady.nil
      exact AllReady.nil
    refine AllReady.cons rfl (fun K hK => ?_) ?_
    · go_simp
      refine hK _ _ ?_
      clear hK K
      refine wpAny_ready (rs := [1, 3]) (by kernel_rfl) (by simp) ?_
      refine AllReady.cons rfl (fun K hK => ?_) ?_
      · go_simp
        refine hK _ _ ?_
        clear hK K
        refine wpAny_ready (rs := [3]) (by kernel_rfl) (by simp) ?_
        refine AllReady.cons rfl (fun K hK => ?_) ?_
        · go_simp
          refine hK _ _ ?_
          clear hK K
          refine wpAny_ready (rs := [4]) (by kernel_rfl) (by simp) ?_
          refine AllReady.cons rfl (fun K hK => ?_) ?_
          · refine step_app2 rfl _ _ _ _ rfl w1.heap.size 5 1 1 _ et_u8 _ 0 _ [] rfl ((M0 w1).drew) _ _ _ rfl ((SLA.out.ch HA.out (fun _ _ => id)).src Try.underlying27 (bv_one _)) m1 m2 (by simp) ?_
            intro a2 k2 w2 hO hC hN
            rw [List.nil_append, Nat.zero_add] at hO
            have C2 := hid (HA.out.trans hC (fun i hi ⟨b, hb, he⟩ => by cases hb; have : w1.heap.size = i := he; omega))
            have O2 := hid hO
            have D2 := hid (DD.out.ch C2.out id id)
            have R2 := hid (RR.out.ch C2.out id (fun _ _ => id))
            have g2 := C2.out.cell c2 id
            clear hO hC hN
            refine hK _ _ ?_
            clear hK K
            refine wpAny_ready (rs := [5]) (by kernel_rfl) (by simp) ?_
            refine AllReady.cons rfl (fun K hK => ?_) ?_
            · go_simp
              go_wp2_with (go_at_call 12; refine (append_any p q d _ _ _ z.l _ D2.out O2.out.sl).mono ?_; rintro e w3 ⟨rfl, hd3, hc3⟩; have D3 := hid hd3; have C3 := hid (C2.out.dsk PP.out hc3); have R3 := hid (refdsk R2.out PP.out hc3); have g3 := cdsk PP.out GG.out hc3 g2; clear hd3 hc3)
              try (refine hK _ _ ?_; clear hK K)
              refine wpAny_ready (rs := [9]) (by kernel_rfl) (by simp) ?_
              refine AllReady.cons rfl (fun K hK => ?_) ?_
              · go_simp
                go_wp2_with (go_at_call 28; refine (rappend_any s x d _ _ _ z.l _ R3.out (SLB.out _ C3.out) hm).mono ?_; rintro e w4 ⟨rfl, hr4, hc4⟩; have R4 := hid hr4; have D4 := hid (diskrsk D3.out PP.out hc4); have C4 := hid (C3.out.rsk hc4); clear hr4 hc4)
                try (refine hK _ _ ?_; clear hK K)
                refine wpAny_take (i := 10) (v := ?_) rfl (by kernel_rfl) (by kernel_rfl) (by kernel_rfl) (fun _ _ _ h => h) (Or.inl ⟨by rfl, ?_⟩) ?_
                rotate_left
                · intro W_
                  go_simp
                  try with_reducible rfl
                refine wpAny_take (i := 11) (v := ?_) rfl (by kernel_rfl) (by kernel_rfl) (by kernel_rfl) (fun _ _ _ h => h) (Or.inl ⟨by rfl, ?_⟩) ?_
                rotate_left
                · intro W_
                  go_simp
                  try with_reducible rfl
                refine wpAny_done (by kernel_rfl) ?_ _
                go_wp2
                go_ret
                exact ⟨by first | rfl | (simp; done) | (simp; rfl), _, D4.out, R4.out, C1.out.all C4.out⟩
              exact AllReady.nil
            exact AllReady.nil
          exact AllReady.nil
        exact AllReady.nil
      refine AllReady.cons rfl (fun K hK => ?_) ?_
      · go_simp
        refine hK _ _ ?_
        clear hK K
        refine wpAny_ready (rs := [1]) (by kernel_rfl) (by simp) ?_
        refine AllReady.cons rfl (fun K hK => ?_) ?_
        · go_simp
          refine hK _ _ ?_
          clear hK K
          refine wpAny_ready (rs := [4]) (by kernel_rfl) (by simp) ?_
          refine AllReady.cons rfl (fun K hK => ?_) ?_
          · refine step_app2 rfl _ _ _ _ rfl w1.heap.size 5 1 1 _ et_u8 _ 0 _ [] rfl ((M0 w1).drew) _ _ _ rfl ((SLA.out.ch HA.out (fun _ _ => id)).src Try.underlying27 (bv_one _)) m1 m2 (by simp) ?_
            intro a2 k2 w2 hO hC hN
            rw [List.nil_append, Nat.zero_add] at hO
            have C2 := hid (HA.out.trans hC (fun i hi ⟨b, hb, he⟩ => by cases hb; have : w1.heap.size = i := he; omega))
            have O2 := hid hO
            have D2 := hid (DD.out.ch C2.out id id)
            have R2 := hid (RR.out.ch C2.out id (fun _ _ => id))
            have g2 := C2.out.cell c2 id
            clear hO hC hN
            refine hK _ _ ?_
            clear hK K
            refine wpAny_ready (rs := [5]) (by kernel_rfl) (by simp) ?_
            refine AllReady.cons rfl (fun K hK => ?_) ?_
            · go_simp
              go_wp2_with (go_at_call 12; refine (append_any p q d _ _ _ z.l _ D2.out O2.out.sl).mono ?_; rintro e w3 ⟨rfl, hd3, hc3⟩; have D3 := hid hd3; have C3 := hid (C2.out.dsk PP.out hc3); have R3 := hid (refdsk R2.out PP.out hc3); have g3 := cdsk PP.out GG.out hc3 g2; clear hd3 hc3)
              try (refine hK _ _ ?_; clear hK K)
              refine wpAny_ready (rs := [9]) (by kernel_rfl) (by simp) ?_
              refine AllReady.cons rfl (fun K hK => ?_) ?_
              · go_simp
                go_wp2_with (go_at_call 28; refine (rappend_any s x d _ _ _ z.l _ R3.out (SLB.out _ C3.out) hm).mono ?_; rintro e w4 ⟨rfl, hr4, hc4⟩; have R4 := hid hr4; have D4 := hid (diskrsk D3.out PP.out hc4); have C4 := hid (C3.out.rsk hc4); clear hr4 hc4)
                try (refine hK _ _ ?_; clear hK K)
                refine wpAny_take (i := 10) (v := ?_) rfl (by kernel_rfl) (by kernel_rfl) (by kernel_rfl) (fun _ _ _ h => h) (Or.inl ⟨by rfl, ?_⟩) ?_
                rotate_left
                · intro W_
                  go_simp
                  try with_reducible rfl
                refine wpAny_take (i := 11) (v := ?_) rfl (by kernel_rfl) (by kernel_rfl) (by kernel_rfl) (fun _ _ _ h => h) (Or.inl ⟨by rfl, ?_⟩) ?_
                rotate_left
                · intro W_
                  go_simp
                  try with_reducible rfl
                refine wpAny_done (by kernel_rfl) ?_ _
                go_wp2
                go_ret
                exact ⟨by first | rfl | (simp; done) | (simp; rfl), _, D4.out, R4.out, C1.out.all C4.out⟩
              exact AllReady.nil
            exact AllReady.nil
          exact AllReady.nil
        exact AllReady.nil
      exact AllReady.nil
    exact AllReady.nil
  case inr.inr.inr.inr.inl =>
    go_wp2_with (first
      | (go_at_call 16; refine (sync_any p q d _ DD.out).mono ?_; rintro e w3 ⟨rfl, hd3, hc3⟩; have D3 := hid hd3; have C3 := hid ((Ch.refl (fun _ => False) w1).dsk PP.out hc3); have R3 := hid (refdsk RR.out PP.out hc3); have g3 := cdsk PP.out GG.out hc3 c1; clear hd3 hc3)
      | (go_at_call 29; refine (rsync_any s x d _ R3.out).mono ?_; rintro e w4 ⟨rfl, hr4, hc4⟩; have R4 := hid hr4; have D4 := hid (diskrsk D3.out PP.out hc4); have C4 := hid (C3.out.rsk hc4); clear hr4 hc4)
      | (go_at_call 17; refine (within10_any z.n 6 _ (by omega) (by omega)).mono ?_; rintro e w5 ⟨rfl, rfl⟩))
    go_ret
    exact ⟨by first | rfl | (simp; done) | (simp; rfl), _, D4.out, R4.out, C1.out.all C4.out⟩
  case inr.inr.inr.inr.inr.inl =>
    go_wp2_with (first
      | (go_at_call 16; refine (sync_any p q d _ DD.out).mono ?_; rintro e w3 ⟨rfl, hd3, hc3⟩; have D3 := hid hd3; have C3 := hid ((Ch.refl (fun _ => False) w1).dsk PP.out hc3); have R3 := hid (refdsk RR.out PP.out hc3); have g3 := cdsk PP.out GG.out hc3 c1; clear hd3 hc3)
      | (go_at_call 29; refine (rsync_any s x d _ R3.out).mono ?_; rintro e w4 ⟨rfl, hr4, hc4⟩; have R4 := hid hr4; have D4 := hid (diskrsk D3.out PP.out hc4); have C4 := hid (C3.out.rsk hc4); clear hr4 hc4)
      | (go_at_call 17; refine (within10_any z.n 6 _ (by omega) (by omega)).mono ?_; rintro e w5 ⟨rfl, rfl⟩))
    go_ret
    exact ⟨by first | rfl | (simp; done) | (simp; rfl), _, D4.out, R4.out, C1.out.all C4.out⟩
  case inr.inr.inr.inr.inr.inr.inl =>
    have t4 := Int.emod_nonneg z.n (by omega : (d.cont.length : Int) + 3 ≠ 0)
    have t5 := Int.emod_lt_of_pos z.n (by omega : (0 : Int) < (d.cont.length : Int) + 3)
    go_wp2
    go_quiet ((go_at_call 17; exact Calls.quiet_of_same ((within10_any z.n ((d.cont.length : Int) + 3) _ (by omega) (by omega)).mono fun e w' h => ⟨h.1, h.2.symm⟩)))
    go_wp2_with (first
      | (go_at_call 19; refine (cut_any p q d _ _ (DD.out.drewN _)).mono ?_; rintro e w3 ⟨rfl, hd3, hc3⟩; have D3 := hid hd3; have C3 := hid (((Ch.refl (fun _ => False) w1).drewN _).dsk PP.out hc3); have R3 := hid (refdsk (RR.out.ch ((Ch.refl (fun _ => False) w1).drewN _) id (fun _ _ => id)) PP.out hc3); clear hd3 hc3)
      | (go_at_call 30; refine (rcut_any s x d _ _ R3.out).mono ?_; rintro e w4 ⟨rfl, hr4, hc4⟩; have R4 := hid hr4; have D4 := hid (diskrsk D3.out PP.out hc4); have C4 := hid (C3.out.rsk hc4); clear hr4 hc4)
      | (go_at_call 17; refine (within10_any z.n 6 _ (by omega) (by omega)).mono ?_; rintro e w5 ⟨rfl, rfl⟩))
    go_ret
    exact ⟨by first | rfl | (simp; done) | (simp; rfl), _, D4.out, R4.out, C1.out.all C4.out⟩
  case inr.inr.inr.inr.inr.inr.inr.inl =>
    go_wp2_with (first
      | (go_at_call 24; refine (stop_any p q d (z.n % 6 - 1) _ DD.out (by omega)).mono ?_; rintro e w3 ⟨rfl, hd3, hc3⟩; have D3 := hid hd3; have C3 := hid ((Ch.refl (fun _ => False) w1).dsk PP.out hc3); have R3 := hid (refdsk RR.out PP.out hc3); have g3 := cdsk PP.out GG.out hc3 c1; clear hd3 hc3)
      | (go_at_call 31; refine (rstop_any s x d (z.n % 6 - 1) _ R3.out (by omega)).mono ?_; rintro e w4 ⟨rfl, hr4, hc4⟩; have R4 := hid hr4; have D4 := hid (diskrsk D3.out PP.out hc4); have C4 := hid (C3.out.rsk hc4); clear hr4 hc4)
      | (go_at_call 17; refine (within10_any z.n 6 _ (by omega) (by omega)).mono ?_; rintro e w5 ⟨rfl, rfl⟩))
    go_ret
    exact ⟨by first | rfl | (simp; done) | (simp; rfl), _, D4.out, R4.out, C1.out.all C4.out⟩
  case inr.inr.inr.inr.inr.inr.inr.inr =>
    go_wp2_with (first
      | (go_at_call 14; refine (crash_any p q d z.n _ DD.out).mono ?_; rintro e w3 ⟨rfl, hd3, hc3⟩; have D3 := hid hd3; have C3 := hid ((Ch.refl (fun _ => False) w1).dsk PP.out hc3); have R3 := hid (refdsk RR.out PP.out hc3); have g3 := cdsk PP.out GG.out hc3 c1; clear hd3 hc3)
      | (go_at_call 32; refine (rcrash_any s x d z.n _ R3.out).mono ?_; rintro e w4 ⟨rfl, hr4, hc4⟩; have R4 := hid hr4; have D4 := hid (diskrsk D3.out PP.out hc4); have C4 := hid (C3.out.rsk hc4); clear hr4 hc4)
      | (go_at_call 17; refine (within10_any z.n 6 _ (by omega) (by omega)).mono ?_; rintro e w5 ⟨rfl, rfl⟩))
    go_ret
    exact ⟨by first | rfl | (simp; done) | (simp; rfl), _, D4.out, R4.out, C1.out.all C4.out⟩
end Go.Proofs.Ytkpblphcbdecmaa

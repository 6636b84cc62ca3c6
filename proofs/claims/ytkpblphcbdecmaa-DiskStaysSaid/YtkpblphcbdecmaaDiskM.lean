/- The statements of disks: more walks. -/
import Derived.Test.YtkpblphcbdecmaaDiskL
namespace Go.Proofs.Ytkpblphcbdecmaa
open Go.RowKit Go.Cx Go.F64
set_option linter.unusedVariables false
set_option linter.unusedSimpArgs false

/-! ### DiskCuts -/
set_option maxRecDepth 100000 in
set_option maxHeartbeats 1000000 in
theorem DiskCuts_walk (w : World) (a0 : Option Addr) (n0 c0 : Nat) (l0 : List UInt8) (h0 : Sl w 1 a0 n0 c0 (bv l0)) (x1 : Int) (h1 : I64 x1) (x2 : Int) (h2 : I64 x2) :
    Calls Try.prog 7 #[.slice a0 n0 c0, .int .i64 x1, .int .i64 x2] w fun e w' => e = .returned (.bool true) ∧ Below w.heap.size w w' := by
  refine Calls.mono (R := True_ w) ?_ (fun e w' h => ⟨h.1, h.2.below0⟩)
  have hl : l0.length = n0 := by have := h0.1; rw [bv_length] at this; omega
  have HL := hid hl
  have H0 := hid h0
  clear hl h0
  by_cases hn : 100 < n0
  · go_enter Try.func7, Try.ntmps7
    go_wp2_with (go_at_call 10; refine (known10_any _).mono ?_; rintro e w1 ⟨rfl, hc1⟩; have C1 := hid hc1; clear hc1)
    go_ret
    exact ⟨rfl, C1.out⟩
  · have hn1 : n0 ≤ 100 := by omega
    obtain ⟨k, hk⟩ : ∃ k : Int, k = x1 % ((n0 : Int) + 1) := ⟨_, rfl⟩
    have hk0 : 0 ≤ k := by rw [hk]; exact Int.emod_nonneg _ (by omega)
    have hk1 : k ≤ n0 := by have := Int.emod_lt_of_pos x1 (by omega : 0 < (n0 : Int) + 1); omega
    obtain ⟨K, rfl⟩ : ∃ K : Nat, k = K := ⟨k.toNat, by omega⟩
    have hr : l0.length ≤ (Dk.new 300).size - (Dk.new 300).cont.length := by rw [HL.out]; exact Nat.le_trans hn1 (by decide)
    obtain ⟨d1, hd1⟩ : ∃ d : Dk, d = { (Dk.new 300).put l0 with cont := l0.take K, syn := K } := ⟨_, rfl⟩
    have hcut : ((Dk.new 300).put l0).cut K = (d1, 0) := by
      unfold Dk.cut
      rw [if_neg (by simp [Dk.put, Dk.new]), if_neg (by simp only [Dk.put, Dk.new, List.nil_append, HL.out]; omega)]
      have : ((Dk.new 300).put l0).step = (Dk.new 300).put l0 := by unfold Dk.step; rw [if_neg (by simp [Dk.put, Dk.new])]
      rw [this, if_neg (by simp [Dk.put, Dk.new]), hd1]
      simp [Dk.put, Dk.new]
    have hlen : d1.cont.length = K := by rw [hd1]; simp only [List.length_take, HL.out]; omega
    have hdd : d1.dead = false := by rw [hd1]; rfl
    have hcut2 : d1.cut ((K : Int) + 1) = (d1, 1) := by
      unfold Dk.cut
      rw [if_neg (by rw [hdd]; simp), if_pos (by right; rw [hlen]; omega)]
    have hcut3 : d1.cut (-1) = (d1, 1) := by
      unfold Dk.cut
      rw [if_neg (by rw [hdd]; simp), if_pos (by left; decide)]
    have hcr : d1.crash x2 = d1 := crash_synced _ _ (by rw [hlen, hd1]) (by rw [hd1]; rfl) hdd
    have hsyn : d1.syn = K := by rw [hd1]
    have hcont : l0.take K = d1.cont := by rw [hd1]
    have HK := hid hk
    have HR := hid hr
    have HCUT := hid hcut
    have HCUT2 := hid hcut2
    have HCUT3 := hid hcut3
    have HCR := hid hcr
    have HCO := hid hcont
    have HLEN := hid hlen
    have hc0 : n0 ≤ c0 := H0.out.2.1
    clear hr hcut hcut2 hcut3 hcr hcont hd1 hk hlen
    go_enter Try.func7, Try.ntmps7
    go_wp2_with (first
      | (go_at_call 10; refine (known10_any _).mono ?_; rintro e w1 ⟨rfl, hc1⟩; have C1 := hid hc1; clear hc1)
      | (go_at_call 11; refine (new_any 300 _).mono ?_; rintro e w2 ⟨p, q, rfl, hd2, hp, hq, hc2⟩; have D2 := hid hd2; have C2 := hid (C1.out.f hc2); clear hd2 hc2)
      | (go_at_call 12; refine (append_ok p q (Dk.new 300) _ _ _ l0 w2 D2.out (H0.out.below C2.out.below0) rfl HR.out rfl).mono ?_; rintro e w3 ⟨rfl, hd3, hc3⟩; have D3 := hid hd3; have C3 := hid hc3; clear hd3 hc3)
      | (go_at_call 17; refine (within10_any _ _ _ (by omega) (by omega)).mono ?_; rintro e w4 ⟨rfl, rfl⟩; rw [← HK.out])
      | (go_at_call 19; refine (cut_any p q ((Dk.new 300).put l0) K w3 D3.out).mono ?_; rintro e w4 ⟨he4, hd4, hc4⟩; rw [HCUT.out] at he4 hd4; subst he4; have D4 := hid hd4; have C4 := hid hc4; clear hd4 hc4 D3)
      | (go_at_call 19; refine (cut_any p q d1 ((K : Int) + 1) w4 D4.out).mono ?_; rintro e w5 ⟨he5, hd5, hc5⟩; rw [HCUT2.out] at he5 hd5; subst he5; have D5 := hid hd5; have C5 := hid hc5; clear hd5 hc5 D4)
      | (go_at_call 19; refine (cut_any p q d1 (-1) w5 D5.out).mono ?_; rintro e w6 ⟨he6, hd6, hc6⟩; rw [HCUT3.out] at he6 hd6; subst he6; have D6 := hid hd6; have C6 := hid hc6; clear hd6 hc6 D5)
      | (go_at_call 14; refine (crash_any p q d1 x2 w6 D6.out).mono ?_; rintro e w7 ⟨rfl, hd7, hc7⟩; rw [HCR.out] at hd7; have D7 := hid hd7; have C7 := hid hc7; clear hd7 hc7 D6)
      | (go_at_call 13; refine (read_ok p q d1 w7 D7.out hdd).mono ?_; rintro e w8 ⟨a8, k8, rfl, ho8, hc8⟩; have O8 := hid ho8; have C8 := hid hc8; have D8 := hid (D7.out.ch hc8 id id); clear ho8 hc8 D7))
    have hq1 := C1.out.size
    have C9 := hid ((((((C2.out.far2 C3.out (by omega) (by omega)).far2 C4.out (by omega) (by omega)).far2 C5.out (by omega) (by omega)).far2 C6.out (by omega) (by omega)).far2 C7.out (by omega) (by omega)).f C8.out)
    have f8 := string_ofN O8.out.sl
    have f0 := string_ofN ((H0.out.below C9.out.below0).front K (by omega) HCO.out)
    have hle2 : K ≤ c0 := by omega
    go_quiet ((go_at_call 15; exact Calls.quiet_of_same ((synced_any p q d1 _ (D8.out.drewN _)).mono fun e w' h => ⟨h.1, h.2.symm⟩)))
    go_wp2
    go_ret
    exact ⟨by simp, C9.out.drewN _⟩

/-! ### DiskOwn -/
theorem DiskAt.set {w : World} {p q : Nat} {d : Dk} (h : DiskAt w p q d) {g i : Nat} {v : Value} (hp : p < g) (hq : q < g) : DiskAt (w.setCell ⟨g, i, none⟩ v) p q d :=
  h.ch (S := fun k => k = g) ((Ch.refl _ _).set) (by omega) (by omega)
set_option maxRecDepth 100000 in
set_option maxHeartbeats 1000000 in
theorem DiskOwn_walk (w : World) (a0 : Option Addr) (n0 c0 : Nat) (l0 : List UInt8) (h0 : Sl w 1 a0 n0 c0 (bv l0)) :
    Calls Try.prog 4 #[.slice a0 n0 c0] w fun e w' => e = .returned (.bool true) ∧ Below w.heap.size w w' := by
  refine Calls.mono (R := True_ w) ?_ (fun e w' h => ⟨h.1, h.2.below0⟩)
  have hl : l0.length = n0 := by have := h0.1; rw [bv_length] at this; omega
  have HL := hid hl
  have H0 := hid h0
  clear hl h0
  by_cases hz : n0 = 0
  · have hz1 : ((n0 : Int) == 0) = true := by simp [hz]
    clear hz
    go_enter Try.func4, Try.ntmps4
    go_wp2_with (go_at_call 10; refine (known10_any _).mono ?_; rintro e w1 ⟨rfl, hc1⟩; have C1 := hid hc1; clear hc1)
    go_ret
    exact ⟨rfl, C1.out⟩
  by_cases hn : 100 < n0
  · have hz1 : ((n0 : Int) == 0) = false := by simp; omega
    go_enter Try.func4, Try.ntmps4
    go_wp2_with (go_at_call 10; refine (known10_any _).mono ?_; rintro e w1 ⟨rfl, hc1⟩; have C1 := hid hc1; clear hc1)
    go_ret
    exact ⟨rfl, C1.out⟩
  · have hz1 : ((n0 : Int) == 0) = false := by simp; omega
    have hn1 : n0 ≤ 100 := by omega
    have hn0 : 0 < n0 := by omega
    clear hz
    obtain ⟨b0, lt, rfl⟩ : ∃ b0 lt, l0 = b0 :: lt := by
      cases l0 with
      | nil => have := HL.out; simp at this; omega
      | cons b l => exact ⟨b, l, rfl⟩
    have hr : (b0 :: lt).length ≤ (Dk.new 300).size - (Dk.new 300).cont.length := by rw [HL.out]; exact Nat.le_trans hn1 (by decide)
    have HR := hid hr
    obtain ⟨d2, hd2⟩ : ∃ d, d = (Dk.new 300).put (b0 :: lt) := ⟨_, rfl⟩
    have hdd : d2.dead = false := by rw [hd2]; rfl
    have hcont : d2.cont = b0 :: lt := by rw [hd2]; rfl
    have HD2 := hid hd2
    have HCO := hid hcont
    clear hr hd2 hcont
    go_enter Try.func4, Try.ntmps4
    go_wp2_with (first
      | (go_at_call 10; refine (known10_any _).mono ?_; rintro e w1 ⟨rfl, hc1⟩; have C1 := hid hc1; clear hc1; have tok1 : True := trivial)
      | (go_at_call 11; have _t := tok1; refine (new_any 300 _).mono ?_; rintro e w2 ⟨p, q, rfl, hd2, hp, hq, hc2⟩; have D2 := hid hd2; have C2 := hid (C1.out.f hc2); clear hd2 hc2 tok1)
      | (go_at_call 11; refine (new_any 300 _).mono ?_; rintro e w3 ⟨p', q', rfl, hd3, hp', hq', hc3⟩; have D3 := hid (D2.out.ch hc3 id id); have LT2 := hid D2.out.lt; have LT3 := hid D3.out.lt; have LE3 := hid hd3.lt; have E3 := hid hd3; have C3 := hid (C2.out.f hc3); clear hd3 hc3)
      | (at_builtin; refine wpList_app rfl _ _ _ _ rfl w3.heap.size 5 1 1 _ et_u8 _ 0 _ [] rfl (World.ownsRow_made w3 #[] 0 (Nat.le_refl _) (Nat.zero_le _) rfl) _ n0 (bv (b0 :: lt)) rfl ((H0.out.below ((C3.out.alloc _).below0)).src Try.underlying27 (bv_one _)) (by unfold maxLen; omega) (by omega) (by simp) ?_; intro a4 k4 w4 hO hS hC hN; rw [List.nil_append, Nat.zero_add] at hO; obtain ⟨g, rfl⟩ := hO.some_ hn0; have O4 := hid hO; have C4 := hid hC.app_new; have G4 := hid (hO.block _ rfl); clear hO hS hC hN)
      | (go_at_call 12; refine (append_ok p q (Dk.new 300) _ _ _ (b0 :: lt) w4 (D3.out.ch C4.out id id) O4.out.sl rfl HR.out rfl).mono ?_; rintro e w5 ⟨rfl, hd5, hc5⟩; rw [← HD2.out] at hd5; have D5 := hid hd5; have E5 := hid ((E3.out.ch C4.out id id).ch hc5 (by have := LT2.out; omega) (by have := LT2.out; omega)); have C5 := hid hc5; have O5 := hid (O4.out.far2 hc5 LT3.out.1 LT3.out.2); have e5 : w5.cell? ⟨g, 0, none⟩ = some (.int .u8 b0.toNat) := O5.out.at_ rfl; have g5 := O5.out.free 0; clear hd5 hc5 D3 E3)
      | (go_at_call 13; refine (read_ok p q d2 _ (D5.out.set (by have := LT3.out; have := G4.out; omega) (by have := LT3.out; have := G4.out; omega)) hdd).mono ?_; rw [HCO.out]; rintro e w6 ⟨a6, k6, he6, ho6, hc6⟩; rw [HL.out] at he6 ho6; subst he6; obtain ⟨g6, rfl⟩ := ho6.some_ hn0; have C6 := hid hc6; have O6 := hid ho6; have D6 := hid ((D5.out.set (i := 0) (v := .int .u8 (((b0.toNat : Int) + 1) % 256)) (by have := LT3.out; have := G4.out; omega : p < g) (by have := LT3.out; have := G4.out; omega : q < g)).ch hc6 id id); have E6 := hid ((E5.out.set (i := 0) (v := .int .u8 (((b0.toNat : Int) + 1) % 256)) (by have := LE3.out; have := G4.out; omega : p' < g) (by have := LE3.out; have := G4.out; omega : q' < g)).ch hc6 id id); have e6 : w6.cell? ⟨g6, 0, none⟩ = some (.int .u8 b0.toNat) := ho6.at_ rfl; have g6f := ho6.free 0; have LG6 := hid (show p < g6 ∧ q < g6 ∧ p' < g6 ∧ q' < g6 by have z6 : w5.heap.size ≤ g6 := by { have := (ho6.block _ rfl).1; simpa using this }; have z5 := C5.out.size; have z4 := C4.out.size; have y1 := LT3.out; have y2 := LE3.out; omega); clear ho6 hc6 D5 E5 e5 g5)
      | (go_at_call 13; refine (read_ok p q d2 _ (D6.out.set LG6.out.1 LG6.out.2.1) hdd).mono ?_; rw [HCO.out]; rintro e w7 ⟨a7, k7, he7, ho7, hc7⟩; rw [HL.out] at he7 ho7; subst he7; have C7 := hid hc7; have O7 := hid ho7; have E7 := hid E6.out; clear ho7 hc7 D6 E6)
      | (go_at_call 13; refine (read_ok p' q' (Dk.new 300) _ ((E7.out.set LG6.out.2.2.1 LG6.out.2.2.2).ch C7.out id id) rfl).mono ?_; rintro e w8 ⟨a8, k8, rfl, ho8, hc8⟩; have C8 := hid hc8; have O8 := hid (O7.out.f hc8); have f7 : (convert 27 9 (.slice a7 n0 k7)).run Try.prog w8 = .ok (.string (str (b0 :: lt))) w8 := string_of O8.out.sl w8 rfl; have z1 := C1.out.size; have z2 := C3.out.size; have z4 := C4.out.size; have z5 := C5.out.size; have y4 := G4.out; have y6 := LG6.out; have C9 := hid ((((((((C3.out.f C4.out).far2 C5.out (by omega) (by omega)).set (p := g) (i := 0) (u := .int .u8 (((b0.toNat : Int) + 1) % 256)) (.inr (by omega))).f C6.out).set (p := g6) (i := 0) (u := .int .u8 (((b0.toNat : Int) + 1) % 256)) (.inr (by omega))).f C7.out).f hc8)); have f0 : (convert 27 9 (.slice a0 n0 c0)).run Try.prog w8 = .ok (.string (str (b0 :: lt))) w8 := string_of (H0.out.below C9.out.below0) w8 rfl; clear ho8 hc8 E7))
    go_ret
    exact ⟨by simp [Dk.new], C9.out⟩

end Go.Proofs.Ytkpblphcbdecmaa
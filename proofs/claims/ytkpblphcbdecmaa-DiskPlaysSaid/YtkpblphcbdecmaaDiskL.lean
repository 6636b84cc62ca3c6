/- The statements of disks: their walks. -/
import Derived.Test.YtkpblphcbdecmaaDiskB
namespace Go.Proofs.Ytkpblphcbdecmaa
open Go.RowKit Go.Cx Go.F64
set_option linter.unusedVariables false
set_option linter.unusedSimpArgs false

theorem append_live (d : Dk) (l : List UInt8) (h1 : d.dead = false) (h2 : l.length ≤ d.size - d.cont.length) (h3 : d.left = 0) : d.append l = (d.put l, 0) := by
  unfold Dk.append
  have : (d.put l).step = d.put l := by unfold Dk.step; rw [if_neg (by simp [Dk.put, h3])]
  rw [if_neg (by simp [h1]), if_neg (by omega), this]
  simp [Dk.put, h1]

theorem append_ok (p q : Nat) (d : Dk) (a : Option Addr) (n c : Nat) (l : List UInt8) (w : World) (h : DiskAt w p q d) (hs : Sl w 1 a n c (bv l)) (h1 : d.dead = false) (h2 : l.length ≤ d.size - d.cont.length) (h3 : d.left = 0) :
    Calls Try.prog 12 #[.pointer (some ⟨p, 0, none⟩), .slice a n c] w fun e w' => e = .returned (.int .i64 0) ∧ DiskAt w' p q (d.put l) ∧ Ch (fun k => k = p ∨ k = q) w w' :=
  (append_any p q d a n c l w h hs).mono fun e w' ⟨g1, g2, g3⟩ => by rw [append_live d l h1 h2 h3] at g1 g2; exact ⟨g1, g2, g3⟩
def ReadOk (l : List UInt8) (w : World) (e : Ending) (w' : World) : Prop :=
  ∃ a c, e = .returned (.tuple #[.slice a l.length c, .int .i64 0]) ∧ Own w' w.heap.size 5 1 a l.length c (bv l) ∧ Ch (fun _ => False) w w'
theorem read_ok (p q : Nat) (d : Dk) (w : World) (h : DiskAt w p q d) (h1 : d.dead = false) :
    Calls Try.prog 13 #[.pointer (some ⟨p, 0, none⟩)] w (ReadOk d.cont w) :=
  (read_any p q d w h).mono fun e w' g => by
    rcases g with ⟨g, _⟩ | ⟨_, g⟩
    · rw [h1] at g; cases g
    · exact g

def dk3 : Dk := (Dk.new 100).put [1, 2, 3]
def dk2 : Dk := dk3.crash 2
theorem dk2_cont : dk2.cont = [1, 2] := by decide +kernel
theorem dk2_dead : dk2.dead = false := rfl
theorem lit3 (w : World) : Sl (w.alloc (.cells #[.int .u8 1, .int .u8 2, .int .u8 3] 5)) 1 (some ⟨w.heap.size, 0, none⟩) 3 3 (bv [1, 2, 3]) :=
  Sl.lit w #[.int .u8 1, .int .u8 2, .int .u8 3] 5 (by unfold maxLen; decide)

set_option maxRecDepth 100000 in
set_option maxHeartbeats 400000 in
theorem known10_any (w : World) : Calls Try.prog 10 #[] w (True_ w) := by
  go_enter Try.func10, Try.ntmps10
  go_wp2_with (first
    | (go_at_call 11; refine (new_any 100 _).mono ?_; rintro e w1 ⟨p, q, rfl, hd1, hp, hq, hc1⟩; have D1 := hid hd1; have C1 := hid hc1; clear hd1 hc1)
    | (go_at_call 12; refine (append_ok p q (Dk.new 100) _ _ _ [1, 2, 3] _ (D1.out.ch ((Ch.refl (fun _ => False) w1).alloc _) id id) (lit3 w1) rfl (by decide) rfl).mono ?_; rintro e w2 ⟨rfl, hd2, hc2⟩; have D2 := hid hd2; have C2 := hid hc2; clear hd2 hc2)
    | (go_at_call 14; refine (crash_any p q dk3 2 _ D2.out).mono ?_; rintro e w3 ⟨rfl, hd3, hc3⟩; have D3 := hid hd3; have C3 := hid hc3; clear hd3 hc3)
    | (go_at_call 13; refine (read_ok p q dk2 _ D3.out rfl).mono ?_; rw [dk2_cont]; rintro e w4 ⟨a4, c4, rfl, ho4, hc4⟩; obtain ⟨g, rfl⟩ := ho4.some_ (by decide); have x1 : w4.cell? ⟨g, 1, none⟩ = some (.int .u8 2) := ho4.at_ rfl; have C4 := hid hc4; clear ho4 hc4))
  go_ret
  exact ⟨rfl, (((C1.out.alloc _).far2 C2.out hp hq).far2 C3.out hp hq).f C4.out⟩

/-! ### DiskSizes -/
set_option maxRecDepth 100000 in
set_option maxHeartbeats 400000 in
theorem DiskSizes_walk (w : World) (n : Int) (hn : I64 n) : Calls Try.prog 3 #[.int .i64 n] w fun e w' => e = .returned (.bool true) ∧ Below w.heap.size w w' := by
  refine Calls.mono (R := True_ w) ?_ (fun e w' h => ⟨h.1, h.2.below0⟩)
  obtain ⟨m, hm, hm2⟩ : ∃ m : Nat, (m : Int) = min (max n 0) 65536 ∧ m ≤ 65536 := ⟨(min (max n 0) 65536).toNat, by omega, by omega⟩
  have hs : (Dk.new n).size = m := by simp only [Dk.new]; omega
  have HM := hid hm
  have HS := hid hs
  clear hm hs
  have hl2 : ∀ w : World, Sl (w.alloc (.cells #[.int .u8 1] 5)) 1 (some ⟨w.heap.size, 0, none⟩) 1 1 (bv [1]) := fun w => Sl.lit w #[.int .u8 1] 5 (by unfold maxLen; decide)
  have L2 := hid hl2
  clear hl2
  have ha : ((Dk.new n).put (List.replicate m 0)).append [1] = ((Dk.new n).put (List.replicate m 0), 19) := by
    unfold Dk.append
    rw [if_neg (by simp [Dk.put, Dk.new]), if_pos (by have := HS.out; simp only [Dk.put, Dk.new, List.length_append, List.length_replicate, List.length_cons, List.length_nil] at this ⊢; omega)]
  have HA := hid ha
  clear ha
  go_enter Try.func3, Try.ntmps3
  go_wp2_with (first
    | (go_at_call 10; refine (known10_any _).mono ?_; rintro e w1 ⟨rfl, hc1⟩; have C1 := hid hc1; clear hc1)
    | (go_at_call 11; refine (new_any n _).mono ?_; rintro e w2 ⟨p, q, rfl, hd2, hp, hq, hc2⟩; have D2 := hid hd2; have C2 := hid hc2; clear hd2 hc2)
    | (at_make; refine wpList_mk rfl _ _ _ rfl _ 1 _ et_u8 rfl _ m rfl rfl (by have := HM.out; omega) (by omega) (by unfold maxLen; omega) ?_; intro w3 ho3 hc3; have D3 := hid (D2.out.ch hc3 id id); have C3 := hid hc3; rw [zeros_bv] at ho3; have S3 := hid ho3.sl; clear ho3 hc3)
    | (go_at_call 12; refine (append_ok p q (Dk.new n) _ _ _ (List.replicate m 0) w3 D3.out S3.out rfl (by have := HS.out; simp [Dk.new] at this ⊢; omega) rfl).mono ?_; rintro e w4 ⟨rfl, hd4, hc4⟩; have D4 := hid hd4; have C4 := hid hc4; clear hd4 hc4 D3 S3)
    | (go_at_call 12; refine (append_any p q _ _ _ _ [1] _ (D4.out.ch ((Ch.refl (fun _ => False) w4).alloc _) id id) (L2.out w4)).mono ?_; rintro e w5 ⟨he5, hd5, hc5⟩; rw [HA.out] at he5 hd5; subst he5; have D5 := hid hd5; have C5 := hid hc5; clear hd5 hc5)
    | (go_at_call 13; refine (read_ok p q _ _ D5.out rfl).mono ?_; rintro e w6 ⟨a6, c6, rfl, ho6, hc6⟩; have C6 := hid hc6; clear ho6 hc6))
  go_ret
  have hq1 := C1.out.size
  refine ⟨?_, ((((((C1.out.f C2.out).f C3.out).far2 C4.out (by omega) (by omega)).alloc _).far2 C5.out (by omega) (by omega)).f C6.out)⟩
  have := HM.out
  simp [Dk.put, Dk.new]
  omega


theorem DiskAt.lt {w : World} {p q : Nat} {d : Dk} (h : DiskAt w p q d) : p < w.heap.size ∧ q < w.heap.size := by
  obtain ⟨buf, h1, h2, h3, h4, _⟩ := h
  exact ⟨lt_of_block h3, lt_of_block h4⟩
/-- Behind a crash all is synced, and it is a front of what was there. -/
theorem crash_len (d : Dk) (n : Int) (h : d.syn ≤ d.cont.length) : (d.crash n).cont.length = (d.crash n).syn ∧ (d.crash n).syn ≤ d.cont.length ∧ (d.crash n).cont = d.cont.take (d.crash n).syn := by
  have e1 : (d.crash n).syn = d.syn + (n % ((d.cont.length - d.syn + 1 : Nat) : Int)).toNat := rfl
  have e2 : (d.crash n).cont = d.cont.take (d.crash n).syn := rfl
  have t3 := Int.emod_nonneg n (by omega : ((d.cont.length - d.syn + 1 : Nat) : Int) ≠ 0)
  have t4 := Int.emod_lt_of_pos n (by omega : 0 < ((d.cont.length - d.syn + 1 : Nat) : Int))
  have h2 : (d.crash n).syn ≤ d.cont.length := by omega
  refine ⟨?_, h2, e2⟩
  rw [e2, List.length_take]; omega
theorem crash_synced (d : Dk) (n : Int) (h : d.syn = d.cont.length) (h2 : d.left = 0) (h3 : d.dead = false) : d.crash n = d := by
  have e1 : (d.crash n).syn = d.syn + (n % ((d.cont.length - d.syn + 1 : Nat) : Int)).toNat := rfl
  have e0 : ((d.cont.length - d.syn + 1 : Nat) : Int) = 1 := by omega
  rw [e0, Int.emod_one] at e1
  have e2 : d.syn + (n % ((d.cont.length - d.syn + 1 : Nat) : Int)).toNat = d.syn := by rw [e0, Int.emod_one]; rfl
  unfold Dk.crash
  rw [e2]
  obtain ⟨cont, size, syn, left, dead⟩ := d
  simp only at h h2 h3 ⊢
  subst h2; subst h3; subst h
  rw [List.take_of_length_le (Nat.le_refl _)]

/-! ### within -/
set_option maxRecDepth 100000 in
set_option maxHeartbeats 400000 in
theorem within10_any (a n : Int) (w : World) (hn : 0 < n) (hn2 : n ≤ 1000000000000) :
    Calls Try.prog 17 #[.int .i64 a, .int .i64 n] w fun e w' => e = .returned (.int .i64 (a % n)) ∧ w = w' := by
  have h0 : (n == 0) = false := beq_eq_false_iff_ne.2 (by omega)
  have t1 := Int.tmod_lt_of_pos a hn
  have t2 := Int.lt_tmod_of_pos a hn
  have e := Int.tmod_eq_emod (a := a) (b := n)
  by_cases hs : a.tmod n < 0
  · have E : a % n = a.tmod n + n := by
      rw [e] at hs ⊢
      have := Int.emod_nonneg a (by omega : n ≠ 0)
      have := Int.emod_lt_of_pos a hn
      split at hs <;> split <;> simp_all <;> omega
    have HE := hid E
    clear E e
    go_enter Try.func17, Try.ntmps17
    go_wp2
    go_ret
    rw [HE.out]
    exact ⟨rfl, rfl⟩
  · have E : a % n = a.tmod n := by
      rw [e] at hs ⊢
      have := Int.emod_nonneg a (by omega : n ≠ 0)
      have := Int.emod_lt_of_pos a hn
      split at hs <;> split <;> simp_all <;> omega
    have HE := hid E
    clear E e
    go_enter Try.func17, Try.ntmps17
    go_wp2
    go_ret
    rw [HE.out]
    exact ⟨rfl, rfl⟩

/-! ### DiskTwice -/
set_option maxRecDepth 100000 in
set_option maxHeartbeats 1000000 in
theorem DiskTwice_walk (w : World) (a0 : Option Addr) (n0 c0 : Nat) (l0 : List UInt8) (h0 : Sl w 1 a0 n0 c0 (bv l0)) (x1 : Int) (h1 : I64 x1) (x2 : Int) (h2 : I64 x2) :
    Calls Try.prog 5 #[.slice a0 n0 c0, .int .i64 x1, .int .i64 x2] w fun e w' => e = .returned (.bool true) ∧ Below w.heap.size w w' := by
  refine Calls.mono (R := True_ w) ?_ (fun e w' h => ⟨h.1, h.2.below0⟩)
  have hl : l0.length = n0 := by have := h0.1; rw [bv_length] at this; omega
  have HL := hid hl
  have H0 := hid h0
  clear hl h0
  by_cases hn : 100 < n0
  · go_enter Try.func5, Try.ntmps5
    go_wp2_with (go_at_call 10; refine (known10_any _).mono ?_; rintro e w1 ⟨rfl, hc1⟩; have C1 := hid hc1; clear hc1)
    go_ret
    exact ⟨rfl, C1.out⟩
  · have hn1 : n0 ≤ 100 := by omega
    obtain ⟨d1, hd1⟩ : ∃ d, d = ((Dk.new 300).put l0).crash x1 := ⟨_, rfl⟩
    have hdd : d1.dead = false := by rw [hd1]; rfl
    have hcr : d1.crash x2 = d1 := by
      rw [hd1]
      exact crash_synced _ _ (crash_len _ _ (Nat.zero_le _)).1.symm rfl rfl
    obtain ⟨k1, k2, k3⟩ := crash_len ((Dk.new 300).put l0) x1 (Nat.zero_le _)
    rw [← hd1] at k1 k2 k3
    have ecp : ((Dk.new 300).put l0).cont = l0 := rfl
    rw [ecp] at k2 k3
    rw [HL.out] at k2
    have ek : l0.take d1.cont.length = d1.cont := by rw [k1]; exact k3.symm
    have hle : d1.cont.length ≤ n0 := by omega
    have hsyn : d1.syn = d1.cont.length := k1.symm
    have EK := hid ek
    clear k1 k2 k3 ek ecp
    have hc0 : n0 ≤ c0 := H0.out.2.1
    have hr : l0.length ≤ (Dk.new 300).size - (Dk.new 300).cont.length := by rw [HL.out]; exact Nat.le_trans hn1 (by decide)
    have HR := hid hr
    have HD1 := hid hd1
    have HCR := hid hcr
    clear hd1 hcr hr
    go_enter Try.func5, Try.ntmps5
    go_wp2_with (first
      | (go_at_call 10; refine (known10_any _).mono ?_; rintro e w1 ⟨rfl, hc1⟩; have C1 := hid hc1; clear hc1)
      | (go_at_call 11; refine (new_any 300 _).mono ?_; rintro e w2 ⟨p, q, rfl, hd2, hp, hq, hc2⟩; have D2 := hid hd2; have C2 := hid (C1.out.f hc2); clear hd2 hc2)
      | (go_at_call 12; refine (append_ok p q (Dk.new 300) _ _ _ l0 w2 D2.out (H0.out.below C2.out.below0) rfl HR.out rfl).mono ?_; rintro e w3 ⟨rfl, hd3, hc3⟩; have D3 := hid hd3; have C3 := hid hc3; clear hd3 hc3)
      | (go_at_call 14; refine (crash_any p q ((Dk.new 300).put l0) x1 w3 D3.out).mono ?_; rintro e w4 ⟨rfl, hd4, hc4⟩; rw [← HD1.out] at hd4; have D4 := hid hd4; have LT4 := hid hd4.lt; have C4 := hid hc4; clear hd4 hc4 D3)
      | (go_at_call 13; refine (read_ok p q d1 w4 D4.out hdd).mono ?_; rintro e w5 ⟨a5, k5, rfl, ho5, hc5⟩; have O5 := hid ho5; have C5 := hid hc5; have D5 := hid (D4.out.ch hc5 id id); clear ho5 hc5 D4)
      | (go_at_call 14; refine (crash_any p q d1 x2 w5 D5.out).mono ?_; rintro e w6 ⟨rfl, hd6, hc6⟩; rw [HCR.out] at hd6; have D6 := hid hd6; have C6 := hid hc6; clear hd6 hc6 D5)
      | (go_at_call 13; refine (read_ok p q d1 w6 D6.out hdd).mono ?_; rintro e w7 ⟨a7, k7, rfl, ho7, hc7⟩; have O7 := hid ho7; have C7 := hid hc7; have D7 := hid (D6.out.ch hc7 id id); clear ho7 hc7 D6))
    have b5 := C5.out.size
    have lt5 := D7.out.lt
    have lt7 := C7.out.size
    have lt6 := C6.out.size
    have lt4 := LT4.out
    have f5 := string_ofN ((O5.out.far2 C6.out lt4.1 lt4.2).f C7.out).sl
    have f7 := string_ofN O7.out.sl
    have hq1 := C1.out.size
    have C8 := hid ((((C2.out.far2 C3.out (by omega) (by omega)).far2 C4.out (by omega) (by omega)).f C5.out).far2 C6.out (by omega) (by omega) |>.f C7.out)
    have f0 := string_ofN ((H0.out.below C8.out.below0).front d1.cont.length hle EK.out)
    have hle2 : d1.cont.length ≤ c0 := by omega
    go_quiet ((go_at_call 15; exact Calls.quiet_of_same ((synced_any p q d1 _ (D7.out.drewN _)).mono fun e w' h => ⟨h.1, h.2.symm⟩)))
    go_wp2
    go_ret
    exact ⟨by simp, C8.out.drewN _⟩

end Go.Proofs.Ytkpblphcbdecmaa

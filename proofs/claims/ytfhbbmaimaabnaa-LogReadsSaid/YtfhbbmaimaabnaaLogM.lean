/- The statement LogReads: its walk. -/
import Derived.Test.YtfhbbmaimaabnaaLogL
import Derived.Test.YtfhbbmaimaabnaaArgs
import Derived.Deep.Cut
namespace Go.Proofs.Ytfhbbmaimaabnaa
open Go.RowKit Go.Cx Go.F64
set_option linter.unusedVariables false
set_option linter.unusedSimpArgs false

theorem own_lit (w : World) (cs : Array Value) (e : TypeId) (hm : cs.size ≤ maxLen) : Own (w.alloc (.cells cs e)) w.heap.size e 1 (some ⟨w.heap.size, 0, none⟩) cs.size cs.size cs.toList :=
  ⟨by simp, .inr ⟨w.heap.size, cs.size, cs, rfl, Nat.le_refl _, heap_alloc_new w _, Nat.le_refl _, hm, by simp, by rw [List.take_of_length_le (by simp)]⟩⟩
/-- A disk on which nothing goes wrong. -/
theorem open_live (d : Dk) (h1 : d.dead = false) (h2 : d.left = 0) : d.open = ({ d with cont := d.cont.take (recs d.cont).2, syn := (recs d.cont).2 }, 0) := by
  have hs : d.step = d := by unfold Dk.step; rw [if_neg (by rw [h2]; simp)]
  have hl := (recs_len d.cont).1
  unfold Dk.open Dk.cut
  rw [if_neg (by rw [h1]; simp), if_neg (by rw [h1]; simp), if_neg (by omega), hs, if_neg (by rw [h1]; simp)]
  simp
theorem append_live (d : Dk) (l : List UInt8) (h1 : d.dead = false) (h2 : l.length ≤ d.size - d.cont.length) (h3 : d.left = 0) : d.append l = (d.put l, 0) := by
  unfold Dk.append
  have : (d.put l).step = d.put l := by unfold Dk.step; rw [if_neg (by simp [Dk.put, h3])]
  rw [if_neg (by simp [h1]), if_neg (by omega), this]
  simp [Dk.put, h1]
set_option maxRecDepth 100000 in
set_option maxHeartbeats 4000000 in
theorem LogReads_walk (w : World) (a0 : Option Addr) (n0 c0 : Nat) (l0 : List UInt8) (h0 : Sl w 1 a0 n0 c0 (bv l0)) (x1 : Int) (h1 : I64 x1) (a2 : Option Addr) (n2 c2 : Nat) (l2 : List UInt8) (h2 : Sl w 1 a2 n2 c2 (bv l2)) :
    Calls Try.prog 3 #[.slice a0 n0 c0, .int .i64 x1, .slice a2 n2 c2] w fun e w' => e = .returned (.bool true) ∧ Below w.heap.size w w' := by
  refine Calls.mono (R := True_ w) ?_ (fun e w' h => ⟨h.1, h.2.below0⟩)
  have hl0 : l0.length = n0 := by have := h0.1; rw [bv_length] at this; omega
  have hl2 : l2.length = n2 := by have := h2.1; rw [bv_length] at this; omega
  have L0 := hid hl0
  have L2 := hid hl2
  have H0 := hid h0
  have H2 := hid h2
  clear hl0 hl2 h0 h2
  by_cases hg : 200 < n0
  · have hgi : (200 : Int) < n0 := by omega
    go_enter Try.func3, Try.ntmps3
    go_wp2_with (go_at_call 10; refine (known11_any _).mono ?_; rintro e w1 ⟨rfl, hc1⟩; have C1 := hid hc1; clear hc1)
    go_ret
    exact ⟨rfl, C1.out⟩
  · have hgi : ¬ (200 : Int) < n0 := by omega
    by_cases hg2 : 100 < n2
    · have hgi2 : (100 : Int) < n2 := by omega
      go_enter Try.func3, Try.ntmps3
      go_wp2_with (go_at_call 10; refine (known11_any _).mono ?_; rintro e w1 ⟨rfl, hc1⟩; have C1 := hid hc1; clear hc1)
      go_ret
      exact ⟨rfl, C1.out⟩
    · have hgi2 : ¬ (100 : Int) < n2 := by omega
      have t0 := Int.emod_nonneg x1 (by omega : (n2 : Int) + 3 ≠ 0)
      have t1 := Int.emod_lt_of_pos x1 (by omega : 0 < (n2 : Int) + 3)
      obtain ⟨k, hk⟩ : ∃ k : Nat, (k : Int) = x1 % ((n2 : Int) + 3) := ⟨(x1 % ((n2 : Int) + 3)).toNat, by omega⟩
      have hk2 : k ≤ 102 := by omega
      have HK := hid hk
      clear t0 t1 hk
      go_enter Try.func3, Try.ntmps3
      go_upto_region 6 with (first
        | (go_at_call 10; refine (known11_any _).mono ?_; rintro e w1 ⟨rfl, hc1⟩; have C1 := hid hc1; clear hc1)
        | (go_at_call 11; refine (within11_any x1 ((n2 : Int) + 3) _ (by omega) (by omega)).mono ?_; rintro e w2 ⟨rfl, rfl⟩; rw [← HK.out]))
      obtain ⟨HDR, hHDR⟩ : ∃ HDR : List UInt8, HDR = [UInt8.ofNat k, 0, 0, 0, 0, 0, 0, 0] := ⟨_, rfl⟩
      have HDL := hid (show HDR.length = 8 by rw [hHDR]; rfl)
      have LIT := hid (show Own (w1.alloc (.cells #[.int .u8 k, .int .u8 0, .int .u8 0, .int .u8 0, .int .u8 0, .int .u8 0, .int .u8 0, .int .u8 0] 5)) w1.heap.size 5 1 (some ⟨w1.heap.size, 0, none⟩) 8 8 (bv HDR) by
        have e : bv HDR = [.int .u8 k, .int .u8 0, .int .u8 0, .int .u8 0, .int .u8 0, .int .u8 0, .int .u8 0, .int .u8 0] := by
          rw [hHDR]
          have : k % 256 = k := by omega
          simp [bv, this]
        rw [e]
        exact own_lit w1 #[.int .u8 k, .int .u8 0, .int .u8 0, .int .u8 0, .int .u8 0, .int .u8 0, .int .u8 0, .int .u8 0] 5 (by simp [maxLen]))
      have m1 : 8 + n2 ≤ maxLen := by unfold maxLen; omega
      have m2 : (8 + n2) * 1 ≤ 140737488355328 := by omega
      have m3 : 8 + n2 + n0 ≤ maxLen := by unfold maxLen; omega
      have m4 : (8 + n2 + n0) * 1 ≤ 140737488355328 := by omega
      have tk : True := trivial
      clear hHDR
      go_upto_region 7 with (first
        | (at_builtin; have tk2 := tk; refine wpList_app rfl _ _ _ _ rfl w1.heap.size 5 1 1 _ et_u8 _ 8 _ _ rfl LIT.out _ n2 _ rfl ((H2.out.ch (C1.out.alloc _) (fun _ _ => id)).src Try.underlying22 (bv_one _)) m1 m2 (by simp) ?_; intro a3 c3 w3 hO hS hC hN; rw [← bv_append] at hO; have O3 := hid hO; have C3 := hid (C1.out.f hC.app_new); have S3 := hid hC.app_new.size; clear hO hS hC hN tk tk2)
        | (at_builtin; refine wpList_app rfl _ _ _ _ rfl w1.heap.size 5 1 1 _ et_u8 _ (8 + n2) _ _ rfl O3.out _ n0 _ rfl ((H0.out.ch C3.out (fun _ _ => id)).src Try.underlying22 (bv_one _)) m3 m4 S3.out ?_; intro a4 c4 w4 hO hS hC hN; rw [← bv_append] at hO; have O4 := hid hO; have C4 := hid (C3.out.app_own O3.out C1.out.size hC); clear hO hS hC hN))
      obtain ⟨M2, hM2⟩ : ∃ M2, M2 = HDR ++ l2 ++ l0 := ⟨_, rfl⟩
      rw [← hM2] at O4
      have hM2l : M2.length = 8 + n2 + n0 := by rw [hM2, List.length_append, List.length_append, HDL.out, L2.out, L0.out]
      have ML := hid hM2l
      clear hM2 hM2l
      go_upto_region 8 with (fail)
      refine rebase (R := fun W0 => Ch (fun _ => False) w W0 ∧ RowsAt W0 (some ⟨w4.heap.size, 0, none⟩) 2 2 [l0, M2]) ⟨C4.out.alloc _, RowsAt.lit w4 #[.slice a0 n0 c0, .slice a4 (8 + n2 + n0) c4] 22 [l0, M2] (by simp [maxLen]) rfl ?_⟩ ?_
      · intro i l hl
        match i, hl with
        | 0, hl => simp at hl; subst hl; exact ⟨a0, c0, by simp [L0.out], by rw [L0.out]; exact H0.out.ch C4.out (fun _ _ => id)⟩
        | 1, hl => simp at hl; subst hl; exact ⟨a4, c4, by simp [ML.out], by rw [ML.out]; exact O4.out.sl⟩
      rintro W0 ⟨hc0, hrow⟩
      obtain ⟨g, hg⟩ : ∃ g, g = w4.heap.size := ⟨_, rfl⟩
      rw [← hg] at hrow ⊢
      have C0 := hid hc0
      have ROW := hid hrow
      have LS := hid (show ∀ l ∈ [l0, M2], l.length ≤ 308 by
        intro l hl
        simp only [List.mem_cons, List.not_mem_nil, or_false] at hl
        rcases hl with rfl | rfl
        · rw [L0.out]; omega
        · rw [ML.out]; omega)
      clear hc0 hrow hg
      go_wp2
      go_loopw [10] (fun vi wr => ∃ i : Nat, i ≤ 2 ∧ vi = .int .i64 i ∧ Ch (fun _ => False) W0 wr) (fun vi _ => 2 - (intOf vi).toNat)
      case atStart => exact ⟨0, by omega, rfl, Ch.refl _ _⟩
      case round =>
        obtain ⟨i, hi, rfl, hc⟩ := hrel
        have C := hid hc
        clear hc
        by_cases hlt : i < 2
        · obtain ⟨l, hl⟩ : ∃ l, [l0, M2][i]? = some l := ⟨_, List.getElem?_eq_getElem (by simpa using hlt)⟩
          obtain ⟨a', c', hcell, hsl⟩ := (ROW.out.below C.out.below0).at_ hl
          rw [Nat.zero_add] at hcell
          have SL := hid hsl
          have hll : l.length ≤ 308 := LS.out l (List.mem_of_getElem? hl)
          have hon := open_live ((Dk.new 1000).put l) rfl rfl
          have hap := append_live (Dk.new 1000) l rfl (by simp [Dk.new]; omega) rfl
          have AP := hid hap
          have ON := hid (show ((Dk.new 1000).put l).open.2 = 0 by rw [hon])
          have hlti : (i : Int) < 2 := by omega
          have i0 : (0 : Int) ≤ i := by omega
          clear hl hsl hon hap
          go_wp2_with (first
            | (go_at_call 12; refine (new_any 1000 _).mono ?_; rintro e w5 ⟨p, q, rfl, hd5, hp, hq, hc5⟩; have D5 := hid hd5; have C5 := hid hc5; clear hd5 hc5)
            | (go_at_call 13; refine (rnew_any 1000 _).mono ?_; rintro e w6 ⟨x, rfl, hx, hr6, hc6⟩; have T6 := hid (new_two D5.out hp hq hx hr6 hc6); have C6 := hid (C5.out.f hc6); have g6 := C6.out.cell hcell id; clear hr6 hc6)
            | (go_at_call 14; refine (append_any p q _ a' l.length c' l _ T6.out.dk (SL.out.below C6.out.below0)).mono ?_; unfold AppendPost; rw [AP.out]; rintro e w7 ⟨rfl, hd7, hc7⟩; have D7 := hid hd7; have R7 := hid (T6.out.one hc7); have C7 := hid (C6.out.far2 hc7 hp hq); have g7 := C7.out.cell hcell id; clear hd7 hc7)
            | (go_at_call 15; refine (rappend_any _ x _ a' l.length c' l _ R7.out (SL.out.below C7.out.below0) (by omega)).mono ?_; unfold RPost; rw [AP.out]; rintro e w8 ⟨rfl, hr8, hc8⟩; have T8 := hid (T6.out.two D7.out (fun _ h => h) hr8 hc8); have C8 := hid (chfar C7.out hc8 (far_new C5.out C6.out hx)); clear hr8 hc8)
            | (go_at_call 16; refine (lopen_any p q _ _ T8.out.dk).mono ?_; unfold OpenPost; rw [ON.out]; rintro e w9 ⟨hd9, hc9, (⟨h, _⟩ | ⟨_, la, a9, c9, rfl, _, ho9, _⟩)⟩; (exact absurd rfl h); have D9 := hid hd9; have R9 := hid (T8.out.wide hc9); have O9 := hid ho9; have C9 := hid (C8.out.far2 hc9 hp hq); clear hd9 hc9 ho9)
            | (go_at_call 17; refine (ropen_any _ x _ _ R9.out).mono ?_; unfold ROpenPost; rw [ON.out]; rintro e w10 ⟨hr10, hc10, (⟨h, _⟩ | ⟨_, lb, a10, c10, rfl, _, ho10, _⟩)⟩; (exact absurd rfl h); have T10 := hid (T8.out.two D9.out (fun _ h => .inl h) hr10 hc10); have O10 := hid (O9.out.keep hc10 (T8.out.mine)); have P10 := hid ho10; have C10 := hid (chfar C9.out hc10 (far_wide (far_new C5.out C6.out hx))); clear hr10 hc10 ho10)
            | (go_at_call 18; refine (rows_any a9 _ c9 _ a10 c10 _ O10.out.rows P10.out.rows).mono ?_; rintro e w11 ⟨rfl, hc11⟩; have T11 := hid (T10.out.f hc11); have C11 := hid (C10.out.f hc11); clear hc11)
            | (go_at_call 19; refine (same_any p q _ x _ _ T11.out.dk T11.out.rf).mono ?_; rintro e w12 ⟨rfl, hc12⟩; have C12 := hid (C11.out.f hc12); clear hc12))
          go_roundw
          case rel => exact ⟨i + 1, by omega, by go_num, C.out.f C12.out⟩
          case measure => simp [intOf]; omega
        · obtain rfl : i = 2 := by omega
          go_wp2
          go_ret
          exact ⟨rfl, C0.out.f C.out⟩
end Go.Proofs.Ytfhbbmaimaabnaa

/- CodeLess. -/
import Derived.Test.YteleabfbnlhkkaaReadL
namespace Go.Proofs.Yteleabfbnlhkkaa
open Go.RowKit Go.Cx
set_option linter.unusedVariables false
set_option linter.unusedSimpArgs false

/-! ### CodeLess -/
set_option maxRecDepth 100000 in
set_option maxHeartbeats 800000 in
theorem CodeLess_walk (w : World) (x : Int) (hx : I64 x) (a0 : Option Addr) (n0 c0 : Nat) (l0 : List UInt8) (h0 : Sl w 1 a0 n0 c0 (bv l0)) :
    Calls Try.prog 7 #[.int .i64 x, .slice a0 n0 c0] w fun e w' => e = .returned (.bool true) ∧ Below w.heap.size w w' := by
  refine Calls.mono (R := True_ w) ?_ (fun e w' h => ⟨h.1, h.2.below0⟩)
  have H0 := hid h0
  have hl0 := Sl_len h0
  have HL := hid hl0
  clear h0
  rcases Nat.lt_or_ge 200 n0 with h1 | h1
  · clear hl0
    go_enter Try.func7, Try.ntmps7
    go_wp2_with (go_at_call 11; refine (known1_any _).mono ?_; rintro e w1 ⟨rfl, hc1⟩; have C1 := hid hc1; clear hc1)
    go_ret
    exact ⟨rfl, C1.out⟩
  · obtain ⟨E, hE⟩ : ∃ E : Nat, (E : Int) = x % 300 := ⟨(x % 300).toNat, by omega⟩
    have hE2 : E < 300 := by omega
    have K1 : (0 : Int) < 300 := by omega
    have K2 : (300 : Int) ≤ 1000000000000 := by omega
    obtain ⟨T, hT⟩ : ∃ T, T = n0 + 1 + E := ⟨_, rfl⟩
    have w1 : IntKind.i64.wrap ((n0 : Int) + 1) = (n0 : Int) + 1 := by rw [IntKind.wrap_i64]; omega
    have w2 : IntKind.i64.wrap ((n0 : Int) + 1 + E) = (n0 : Int) + 1 + E := by rw [IntKind.wrap_i64]; omega
    have v1 : ((u8of (T : Int)).toNat : Int) = ((n0 : Int) + 1 + E) % 256 := by rw [u8of_val, hT]; omega
    have v2 : ((u8of ((T : Int) / 256)).toNat : Int) = ((n0 : Int) + 1 + E) / 256 := by rw [u8of_val, hT]; omega
    have hnum : T = leNum (([u8of (T : Int), u8of ((T : Int) / 256)] ++ l0).take 2) := by
      have e1 := u8of_val (T : Int)
      have e2 := u8of_val ((T : Int) / 256)
      simp [leNum]; omega
    have hcut : (([u8of (T : Int), u8of ((T : Int) / 256)] ++ l0).drop 2).length < T := by simp; omega
    have h2 : 2 ≤ ([u8of (T : Int), u8of ((T : Int) / 256)] ++ l0).length := by simp
    have hm : min n0 7 ≤ n0 := by omega
    have hm7 : (l0.take (min n0 7)).length < 8 := by rw [List.length_take]; omega
    obtain ⟨M, hM⟩ : ∃ M, M = min n0 7 := ⟨_, rfl⟩
    rw [← hM] at hm hm7
    have i1 : (0 : Int) ≤ M := by omega
    have i2 : (M : Int) ≤ c0 := by have := H0.out.2.1; omega
    have i3 : min (n0 : Int) 7 = (M : Int) := by omega
    have i4 : (M : Int).toNat = M := by omega
    have q1 : 2 + n0 ≤ maxLen := by unfold maxLen; omega
    have q2 : (2 + n0) * 1 ≤ 140737488355328 := by omega
    have q3 : 2 + n0 ≤ 1000000 := by omega
    have q4 : M ≤ 1000000 := by omega
    have W1 := hid w1
    have V1 := hid v1
    have V2 := hid v2
    have NUM := hid hnum
    have CUT := hid hcut
    have G2 := hid h2
    have M7 := hid hm7
    have XE := hid hE
    have Z2 := hid (er0 8)
    have Z4 := hid (endOf_ne (show (8 : Int) ≠ 0 by decide))
    have mk2 : ∀ (w : World) (y z : Int) (a b : UInt8), (a.toNat : Int) = y → (b.toNat : Int) = z → Own (w.alloc (.cells #[.int .u8 y, .int .u8 z] 5)) w.heap.size 5 1 (some ⟨w.heap.size, 0, none⟩) 2 2 (bv [a, b]) := by
      rintro w y z a b rfl rfl
      exact ⟨rfl, .inr ⟨w.heap.size, 2, _, rfl, Nat.le_refl _, heap_alloc_new w _, Nat.le_refl _, by simp [maxLen], rfl, rfl⟩⟩
    have MK := hid mk2
    clear w1 v1 v2 hnum hcut h2 hm7 hM hT hE hl0 mk2
    go_enter Try.func7, Try.ntmps7
    have w1 := W1.out
    go_wp2_with (first
      | (go_at_call 11; refine (known1_any _).mono ?_; rintro e u1 ⟨rfl, hc1⟩; have C1 := hid hc1; have A1 := hid (H0.out.below hc1.below0); clear hc1)
      | (go_at_call 18; refine (within1_any x 300 _ K1 K2).mono ?_; rintro e u2 ⟨rfl, rfl⟩; rw [← XE.out])
      | (at_builtin; refine wpList_app rfl _ _ _ _ rfl u1.heap.size 5 1 1 _ et_u8 _ 2 _ _ rfl (MK.out u1 _ _ (u8of (T : Int)) (u8of ((T : Int) / 256)) V1.out V2.out) _ n0 _ rfl ((A1.out.ch ((Ch.refl (fun _ => False) u1).alloc _) (fun _ _ => id)).src Try.underlying22 (bv_one _)) q1 q2 (by simp) ?_; intro a2 c2 u2 hO hS hC hN; rw [← bv_append] at hO; have O2 := hid hO.sl; have hC2 := Ch.app_new hC; have C2 := hid (C1.out.f hC2); have A2 := hid (A1.out.ch hC2 (fun _ _ => id)); clear hO hS hC hN hC2 A1 C1)
      | (go_at_call 19; refine (new1_any _ (2 + n0) _ _ u2 O2.out q3).mono ?_; rintro e u3 ⟨p, rfl, hr, hp, hc⟩; have R3 := hid hr; have PP := hid (Nat.le_trans C2.out.size hp); have C3 := hid (C2.out.f hc); have A3 := hid (A2.out.ch hc (fun _ _ => id)); clear hr hc hp A2 C2 O2)
      | (go_at_call 23; refine (rtext_cut p _ u3 R3.out T G2.out NUM.out CUT.out).mono ?_; rintro e u4 ⟨rfl, hr, hc⟩; have R4 := hid hr; have C4 := hid (C3.out.far1 hc PP.out); have A4 := hid (((H0.out.below C4.out.below0).take M hm)); rw [← bv_take] at A4; clear hr hc R3 C3 A3)
      | (go_at_call 19; refine (new1_any _ M _ _ u4 A4.out q4).mono ?_; rintro e u5 ⟨q, rfl, hr, hp, hc⟩; have R5 := hid hr; have QQ := hid (Nat.le_trans C4.out.size hp); have QP := hid hp; have D5 := hid hc; have C5 := hid (C4.out.f hc); clear hr hc hp A4 C4)
      | (go_at_call 20; refine (rint_bad q _ 0 u5 R5.out (.inr M7.out)).mono ?_; rintro e u6 ⟨rfl, hr, hc⟩; rw [Z2.out] at hr; have R6 := hid hr; have R4' := hid (R4.out.f (D5.out.far1 hc QP.out)); have C6 := hid (C5.out.far1 hc QQ.out); clear hr hc R5 C5 R4)
      | (go_at_call 22; refine (end_any p _ 8 u6 R4'.out).mono ?_; rw [Z4.out]; rintro e u7 ⟨rfl, rfl⟩; clear R4')
      | (go_at_call 22; refine (end_any q _ 8 u6 R6.out).mono ?_; rw [Z4.out]; rintro e u8 ⟨rfl, rfl⟩))
    go_ret
    exact ⟨rfl, C6.out⟩
end Go.Proofs.Yteleabfbnlhkkaa

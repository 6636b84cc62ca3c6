/- Statements of chapter 1: CodeOrder, CodeWrites. -/
import Derived.Test.YteleabfbnlhkkaaCodeR
namespace Go.Proofs.Yteleabfbnlhkkaa
open Go.RowKit Go.Cx
set_option linter.unusedVariables false
set_option linter.unusedSimpArgs false

theorem le8_m2 : le8 (-2) = [254, 255, 255, 255, 255, 255, 255, 255] := by decide +kernel
theorem str_ab : (⟨#[97, 98]⟩ : ByteArray) = str [97, 98] := rfl
set_option maxRecDepth 100000 in
set_option maxHeartbeats 400000 in
theorem known1_any (w : World) : Calls Try.prog 11 #[] w (True_ w) := by
  have HL := hid le8_m2
  have HN := fun w => hid (Sl.nil w 1)
  go_enter Try.func11, Try.ntmps11
  go_wp2_with (first
    | (go_at_call 12; refine (int_any none 0 0 [] (-2) _ (HN _).out (by omega)).mono ?_; rintro e w1 ⟨a1, c1, rfl, ho1, hc1⟩; rw [List.nil_append, HL.out] at ho1; obtain ⟨g, rfl⟩ := ho1.some_ (by decide); have x1 : w1.cell? ⟨g, 0, none⟩ = some (.int .u8 254) := ho1.at_ rfl; have x2 : w1.cell? ⟨g, 7, none⟩ = some (.int .u8 255) := ho1.at_ rfl; have C1 := hid hc1; clear ho1 hc1)
    | (go_at_call 16; refine (text_any none 0 0 [] [97, 98] _ (HN _).out (by omega) (by simp)).mono ?_; rintro e w2 ⟨a2, c2, rfl, ho2, hc2⟩; have C2 := hid hc2; clear ho2 hc2))
  go_ret
  exact ⟨rfl, C1.out.f C2.out⟩

/-! ### CodeOrder -/
set_option maxRecDepth 100000 in
set_option maxHeartbeats 1000000 in
theorem CodeOrder_walk (w : World) (a0 : Option Addr) (n0 c0 : Nat) (l0 : List UInt8) (h0 : Sl w 1 a0 n0 c0 (bv l0)) (x : Int) (hx : I64 x) (y : Int) (hy : I64 y) (s : ByteArray) (hs : s.size ≤ maxLen) :
    Calls Try.prog 4 #[.slice a0 n0 c0, .int .i64 x, .int .i64 y, .string s] w fun e w' => e = .returned (.bool true) ∧ Below w.heap.size w w' := by
  refine Calls.mono (R := True_ w) ?_ (fun e w' h => ⟨h.1, h.2.below0⟩)
  obtain ⟨s, rfl⟩ := str_of s
  have H0 := hid h0
  clear h0 hs
  by_cases hbig : 50 < n0 ∨ 200 < s.length
  · go_enter Try.func4, Try.ntmps4
    rcases Nat.lt_or_ge 50 n0 with h1 | h1
    · go_wp2_with (go_at_call 11; refine (known1_any _).mono ?_; rintro e w1 ⟨rfl, hc1⟩; have C1 := hid hc1; clear hc1)
      go_ret
      exact ⟨rfl, C1.out⟩
    · have h2 : 200 < s.length := by omega
      go_wp2_with (go_at_call 11; refine (known1_any _).mono ?_; rintro e w1 ⟨rfl, hc1⟩; have C1 := hid hc1; clear hc1)
      go_ret
      exact ⟨rfl, C1.out⟩
  · have h1 : n0 ≤ 50 := by omega
    have h2 : s.length ≤ 200 := by omega
    have hmin : min s.length 65535 = s.length := by omega
    have HM := hid hmin
    have HN := fun w => hid (Sl.nil w 1)
    clear hbig hmin
    have mk0 : ∀ w : World, Own (w.alloc (.cells #[] 5)) w.heap.size 5 1 (some ⟨w.heap.size, 0, none⟩) 0 0 [] := fun w => World.ownsRow_made w #[] 0 (Nat.le_refl _) (Nat.zero_le _) rfl
    have M0 := hid mk0
    clear mk0
    have q1 : 0 + n0 ≤ maxLen := by unfold maxLen; omega
    have q2 : (0 + n0) * 1 ≤ 140737488355328 := by omega
    have q3 : n0 ≤ 1000000 := by omega
    have q4 : n0 + 8 ≤ 900000 := by omega
    have q5 : n0 + 8 + 1 ≤ 900000 := by omega
    have p1 : n0 + 8 ≤ maxLen := by unfold maxLen; omega
    have p2 : (n0 + 8) * 1 ≤ 140737488355328 := by omega
    have p3 : n0 + 8 + 1 ≤ maxLen := by unfold maxLen; omega
    have p4 : (n0 + 8 + 1) * 1 ≤ 140737488355328 := by omega
    have p5 : n0 + 8 + 1 + (0 + 2 + s.length) ≤ maxLen := by unfold maxLen; omega
    have p6 : (n0 + 8 + 1 + (0 + 2 + s.length)) * 1 ≤ 140737488355328 := by omega
    have hw1 : IntKind.i64.wrap ((n0 : Int) + 8) = (n0 : Int) + 8 := by rw [IntKind.wrap_i64]; omega
    have hw2 : IntKind.i64.wrap ((n0 : Int) + 8 + 1) = (n0 : Int) + 8 + 1 := by rw [IntKind.wrap_i64]; omega
    have hw3 : IntKind.i64.wrap ((n0 : Int) + 8 + 1 + 2) = (n0 : Int) + 8 + 1 + 2 := by rw [IntKind.wrap_i64]; omega
    have hw4 : IntKind.i64.wrap ((n0 : Int) + 8 + 1 + 2 + s.length) = (n0 : Int) + 8 + 1 + 2 + s.length := by rw [IntKind.wrap_i64]; omega
    have q6 : s.length ≤ 1000000 := by omega
    go_enter Try.func4, Try.ntmps4
    go_wp2_with (first
      | (go_at_call 11; refine (known1_any _).mono ?_; rintro e w1 ⟨rfl, hc1⟩; have C1 := hid hc1; have A1 := hid (H0.out.below hc1.below0); clear hc1)
      | (at_builtin; refine wpList_app rfl _ _ _ _ rfl w1.heap.size 5 1 1 _ et_u8 _ 0 _ [] rfl (M0.out w1) _ n0 _ rfl ((A1.out.ch ((Ch.refl (fun _ => False) w1).alloc _) (fun _ _ => id)).src Try.underlying22 (bv_one _)) q1 q2 (by simp) ?_; intro a2 c2 w2 hO hS hC hN; rw [List.nil_append, Nat.zero_add] at hO; have O2 := hid hO; have hC2 := Ch.app_new hC; have C2 := hid (C1.out.f hC2); have A2 := hid (A1.out.ch hC2 (fun _ _ => id)); clear hO hS hC hN hC2 A1)
      | (go_at_call 12; refine (int_any _ n0 _ l0 x _ O2.out.sl q3).mono ?_; rintro e w3 ⟨a3, c3, rfl, hO, hC⟩; have O3 := hid hO; have C3 := hid (C2.out.f hC); have A3 := hid (A2.out.ch hC (fun _ _ => id)); clear hO hC O2 A2)
      | (go_at_call 14; refine (byte_any _ (n0 + 8) _ _ y _ O3.out.sl q4).mono ?_; rintro e w4 ⟨a4, c4, rfl, hO, hC⟩; have O4 := hid hO; have C4 := hid (C3.out.f hC); have A4 := hid (A3.out.ch hC (fun _ _ => id)); clear hO hC O3 A3)
      | (go_at_call 16; refine (text_any _ (n0 + 8 + 1) _ _ s _ O4.out.sl q5 q6).mono ?_; rintro e w5 ⟨a5, c5, rfl, hO, hC⟩; rw [HM.out] at hO ⊢; have O5 := hid hO.sl; have LT := hid (fun b hb => (hO.block b hb).2); have C5 := hid (C4.out.f hC); have LE := hid C5.out.size; have A5 := hid (A4.out.ch hC (fun _ _ => id)); clear hO hC O4 A4)
      | (at_builtin; refine wpList_app rfl _ _ _ _ rfl w5.heap.size 5 1 1 _ et_u8 _ 0 _ [] rfl (M0.out w5) _ n0 _ rfl ((A5.out.ch ((Ch.refl (fun _ => False) w5).alloc _) (fun _ _ => id)).src Try.underlying22 (bv_one _)) q1 q2 (by simp) ?_; intro a6 c6 w6 hO hS hC hN; rw [List.nil_append, Nat.zero_add] at hO; have O6 := hid hO; have hC2 := Ch.app_new hC; have C6 := hid (C5.out.f hC2); have X6 := hid (O5.out.ch hC2 (fun _ _ => id)); have G6 := hid hC2.size; clear hO hS hC hN hC2 A5 O5)
      | (go_at_call 12; refine (int_any none 0 0 [] x _ (HN _).out (by omega)).mono ?_; rintro e w7 ⟨a7, c7, rfl, hO, hC⟩; rw [List.nil_append] at hO; have N7 := hid hO.sl; have O7 := hid (O6.out.ch hC (fun _ _ => id)); have C7 := hid (C6.out.f hC); have X7 := hid (X6.out.ch hC (fun _ _ => id)); have G7 := hid (Nat.le_trans G6.out hC.size); clear hO hC O6 X6)
      | (at_builtin; refine wpList_app rfl _ _ _ _ rfl w5.heap.size 5 1 1 _ et_u8 _ n0 _ _ rfl O7.out _ 8 _ rfl (N7.out.src Try.underlying22 (bv_one _)) p1 p2 G7.out ?_; intro a8 c8 w8 hO hS hC hN; rw [← bv_append] at hO; have O8 := hid hO; have C8 := hid (C7.out.app_own O7.out LE.out hC); have X8 := hid (X7.out.past LT.out O7.out hC); have G8 := hid (Nat.le_trans G7.out hC.size); clear hO hS hC hN O7 X7 N7)
      | (go_at_call 14; refine (byte_any none 0 0 [] y _ (HN _).out (by omega)).mono ?_; rintro e w9 ⟨a9, c9, rfl, hO, hC⟩; rw [List.nil_append] at hO; have N9 := hid hO.sl; have O9 := hid (O8.out.ch hC (fun _ _ => id)); have C9 := hid (C8.out.f hC); have X9 := hid (X8.out.ch hC (fun _ _ => id)); have G9 := hid (Nat.le_trans G8.out hC.size); clear hO hC O8 X8)
      | (at_builtin; refine wpList_app rfl _ _ _ _ rfl w5.heap.size 5 1 1 _ et_u8 _ (n0 + 8) _ _ rfl O9.out _ 1 _ rfl (N9.out.src Try.underlying22 (bv_one _)) p3 p4 G9.out ?_; intro b0 d0 v0 hO hS hC hN; rw [← bv_append] at hO; have O10 := hid hO; have C10 := hid (C9.out.app_own O9.out LE.out hC); have X10 := hid (X9.out.past LT.out O9.out hC); have G10 := hid (Nat.le_trans G9.out hC.size); clear hO hS hC hN O9 X9 N9)
      | (go_at_call 16; refine (text_any none 0 0 [] s _ (HN _).out (by omega) q6).mono ?_; rintro e v1 ⟨b1, d1, rfl, hO, hC⟩; rw [List.nil_append, HM.out] at hO; rw [HM.out]; have N11 := hid hO.sl; have O11 := hid (O10.out.ch hC (fun _ _ => id)); have C11 := hid (C10.out.f hC); have X11 := hid (X10.out.ch hC (fun _ _ => id)); have G11 := hid (Nat.le_trans G10.out hC.size); clear hO hC O10 X10)
      | (at_builtin; refine wpList_app rfl _ _ _ _ rfl w5.heap.size 5 1 1 _ et_u8 _ (n0 + 8 + 1) _ _ rfl O11.out _ (0 + 2 + s.length) _ rfl (N11.out.src Try.underlying22 (bv_one _)) p5 p6 G11.out ?_; intro b2 d2 v2 hO hS hC hN; rw [← bv_append] at hO; have O12 := string_of hO.sl v2 rfl; simp only [Nat.zero_add] at O12; have C12 := hid (C11.out.app_own O11.out LE.out hC); have X12 := string_of (X11.out.past LT.out O11.out hC) v2 rfl; clear hO hS hC hN O11 X11 N11))
    go_ret
    exact ⟨by simp, C12.out⟩
end Go.Proofs.Yteleabfbnlhkkaa

/- CodeWrites. -/
import Derived.Test.YteleabfbnlhkkaaCodeL
import Derived.Deep.RegionWith
namespace Go.Proofs.Yteleabfbnlhkkaa
open Go.RowKit Go.Cx
set_option linter.unusedVariables false
set_option linter.unusedSimpArgs false

/-- The two writings of one thing, at the world behind both. -/
structure Pair (w w2 : World) (B : Nat) (a0 : Option Addr) (n0 c0 : Nat) (l0 : List UInt8) (a2 : Option Addr) (c2 : Nat) : Prop where
  arg : Sl w2 1 a0 n0 c0 (bv l0)
  was : Own w2 B 5 1 a2 n0 c2 (bv l0)
  ch : Ch (fun _ => False) w w2
  le : w.heap.size ≤ B ∧ B ≤ w2.heap.size
theorem Pair.fresh {w w2 w3 : World} {B : Nat} {a0 : Option Addr} {n0 c0 : Nat} {l0 : List UInt8} {a2 : Option Addr} {c2 : Nat} (h : Pair w w2 B a0 n0 c0 l0 a2 c2) (hc : Ch (fun _ => False) w2 w3) : Pair w w3 B a0 n0 c0 l0 a2 c2 :=
  ⟨h.arg.ch hc (fun _ _ => id), h.was.ch hc (fun _ _ => id), h.ch.f hc, h.le.1, Nat.le_trans h.le.2 hc.size⟩
theorem Pair.app {w w2 w3 : World} {B : Nat} {a0 : Option Addr} {n0 c0 : Nat} {l0 : List UInt8} {a2 : Option Addr} {c2 : Nat} (h0 : Sl w 1 a0 n0 c0 (bv l0)) (h : Pair w w2 B a0 n0 c0 l0 a2 c2)
    {base m c' : Nat} {a' : Option Addr} {ys : List Value} (hb : base = B) (hA : App w2 w3 base 5 1 a2 n0 c2 (bv l0) a' m c' ys) : Pair w w3 B a0 n0 c0 l0 a2 c2 :=
  have hc := h.ch.app_own h.was h.le.1 hA.ch
  ⟨h0.below hc.below0, by rw [← hb]; exact hA.keep, hc, h.le.1, Nat.le_trans h.le.2 hA.ch.size⟩
/-- What was written afresh reads on, whatever is appended to what is older. -/
theorem Pair.reads {w w2 w3 w4 : World} {B : Nat} {a0 : Option Addr} {n0 c0 : Nat} {l0 : List UInt8} {a2 : Option Addr} {c2 : Nat} (h : Pair w w2 B a0 n0 c0 l0 a2 c2) {a3 : Option Addr} {m3 c3 : Nat} {xs : List Value}
    (hO : Own w3 w2.heap.size 5 1 a3 m3 c3 xs) {base m c' : Nat} {a' : Option Addr} {ys : List Value} (hA : App w3 w4 base 5 1 a2 n0 c2 (bv l0) a' m c' ys) : Sl w4 1 a3 m3 c3 xs :=
  hO.sl.ch hA.ch (fun b hb ⟨b', hb', he⟩ => by have h1 := (hO.block b hb).1; have h2 := (h.was.block b' hb').2; omega)

set_option maxRecDepth 100000 in
set_option maxHeartbeats 60000000 in
theorem CodeWrites_walk (w : World) (a0 : Option Addr) (n0 c0 : Nat) (l0 : List UInt8) (h0 : Sl w 1 a0 n0 c0 (bv l0)) (x : Int) (hx : I64 x) (s : ByteArray) (hs : s.size ≤ maxLen) :
    Calls Try.prog 3 #[.slice a0 n0 c0, .int .i64 x, .string s] w fun e w' => e = .returned (.bool true) ∧ Below w.heap.size w w' := by
  refine Calls.mono (R := True_ w) ?_ (fun e w' h => ⟨h.1, h.2.below0⟩)
  obtain ⟨s, rfl⟩ := str_of s
  have H0 := hid h0
  clear h0 hs
  by_cases hbig : 300 < n0 ∨ 500 < s.length
  · go_enter Try.func3, Try.ntmps3
    rcases Nat.lt_or_ge 300 n0 with h1 | h1
    · go_wp2_with (go_at_call 11; refine (known1_any _).mono ?_; rintro e w1 ⟨rfl, hc1⟩; have C1 := hid hc1; clear hc1)
      go_ret
      exact ⟨rfl, C1.out⟩
    · have h2 : 500 < s.length := by omega
      go_wp2_with (go_at_call 11; refine (known1_any _).mono ?_; rintro e w1 ⟨rfl, hc1⟩; have C1 := hid hc1; clear hc1)
      go_ret
      exact ⟨rfl, C1.out⟩
  · have h1 : n0 ≤ 300 := by omega
    have h2 : s.length ≤ 500 := by omega
    have hmin : min s.length 65535 = s.length := by omega
    have HM := hid hmin
    clear hbig hmin
    have mk0 : ∀ w : World, Own (w.alloc (.cells #[] 5)) w.heap.size 5 1 (some ⟨w.heap.size, 0, none⟩) 0 0 [] := fun w => World.ownsRow_made w #[] 0 (Nat.le_refl _) (Nat.zero_le _) rfl
    have M0 := hid mk0
    clear mk0
    have q1 : 0 + n0 ≤ maxLen := by unfold maxLen; omega
    have q2 : (0 + n0) * 1 ≤ 140737488355328 := by omega
    have q3 : n0 ≤ 1000000 := by omega
    have q4 : n0 ≤ 900000 := by omega
    have q6 : s.length ≤ 1000000 := by omega
    go_enter Try.func3, Try.ntmps3
    go_wp2_with (first
      | (go_at_call 11; refine (known1_any _).mono ?_; rintro e w1 ⟨rfl, hc1⟩; have C1 := hid hc1; have A1 := hid (H0.out.below hc1.below0); clear hc1)
      | (at_builtin; refine wpList_app rfl _ _ _ _ rfl w1.heap.size 5 1 1 _ et_u8 _ 0 _ [] rfl (M0.out w1) _ n0 _ rfl ((A1.out.ch ((Ch.refl (fun _ => False) w1).alloc _) (fun _ _ => id)).src Try.underlying22 (bv_one _)) q1 q2 (by simp) ?_; intro a2 c2 w2 hO hS hC hN; rw [List.nil_append, Nat.zero_add] at hO; have hC2 := Ch.app_new hC; have P2 := hid (Pair.mk (A1.out.ch hC2 (fun _ _ => id)) hO (C1.out.f hC2) ⟨C1.out.size, hC2.size⟩); clear hO hS hC hN hC2 A1 C1))
    generalize w1.heap.size = B at P2
    replace P2 := hid (P2.out.fresh (Ch.refl (fun _ => False) w2).drew)
    go_region_with (first
      | (go_at_call 12; refine (int_any _ n0 _ l0 x _ P2.out.arg q3).mono ?_; rintro e w3 ⟨a3, c3, rfl, hO, hC⟩; have O3 := hid hO; have P3 := hid (P2.out.fresh hC); have X3 := string_of hO.sl w3 rfl; clear hO hC)
      | (go_at_call 13; refine (rint_any B _ n0 _ l0 x _ P3.out.was q3 P3.out.le.2).mono ?_; rintro e w4 ⟨a4, c4, rfl, hA⟩; have P4 := hid (P3.out.app H0.out rfl hA); have X3' := string_of (P2.out.reads O3.out hA) w4 rfl; have X4 := string_of hA.own.sl w4 rfl; clear hA)
      | (go_at_call 14; refine (byte_any _ n0 _ l0 x _ P4.out.arg q4).mono ?_; rintro e w5 ⟨a5, c5, rfl, hO, hC⟩; have O5 := hid hO; have P5 := hid (P4.out.fresh hC); have X5 := string_of hO.sl w5 rfl; clear hO hC)
      | (go_at_call 15; refine (rbyte_any B _ n0 _ l0 x _ P5.out.was q3 P5.out.le.2).mono ?_; rintro e w6 ⟨a6, c6, rfl, hA⟩; have P6 := hid (P5.out.app H0.out rfl hA); have X5' := string_of (P4.out.reads O5.out hA) w6 rfl; have X6 := string_of hA.own.sl w6 rfl; clear hA)
      | (go_at_call 16; refine (text_any _ n0 _ l0 s _ P6.out.arg q4 q6).mono ?_; rintro e w7 ⟨a7, c7, rfl, hO, hC⟩; have O7 := hid hO; have P7 := hid (P6.out.fresh hC); have X7 := string_of hO.sl w7 rfl; clear hO hC)
      | (go_at_call 17; refine (rtext_any B _ n0 _ l0 s _ P7.out.was q3 q6 P7.out.le.2).mono ?_; rintro e w8 ⟨a8, c8, rfl, hA⟩; have P8 := hid (P7.out.app H0.out rfl hA); have X7' := string_of (P6.out.reads O7.out hA) w8 rfl; have X8 := string_of hA.own.sl w8 rfl; clear hA))
    all_goals (
      go_wp2
      go_ret
      exact ⟨by first | rfl | simp, P8.out.ch⟩)
end Go.Proofs.Yteleabfbnlhkkaa

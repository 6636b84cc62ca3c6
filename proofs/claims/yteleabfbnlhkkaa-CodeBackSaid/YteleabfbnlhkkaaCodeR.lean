/- comitiaref1's Int, Byte, Text. -/
import Derived.Test.YteleabfbnlhkkaaCode
namespace Go.Proofs.Yteleabfbnlhkkaa
open Go.RowKit Go.Cx
set_option linter.unusedVariables false
set_option linter.unusedSimpArgs false

/-- What was appended to what the caller owns. -/
def AppPost (w : World) (base : Nat) (a : Option Addr) (n c : Nat) (l news : List UInt8) (m : Nat) (e : Ending) (w' : World) : Prop :=
  ∃ a' c', e = .returned (.slice a' m c') ∧ App w w' base 5 1 a n c (bv l) a' m c' (bv (l ++ news))

set_option maxRecDepth 100000 in
set_option maxHeartbeats 1000000 in
theorem rint_any (base : Nat) (a : Option Addr) (n c : Nat) (l : List UInt8) (x : Int) (w : World) (h : Own w base 5 1 a n c (bv l)) (hn : n ≤ 1000000) (hbase : base ≤ w.heap.size) :
    Calls Try.prog 13 #[.slice a n c, .int .i64 x] w (AppPost w base a n c l (le8 x) (n + 8)) := by
  have H := hid h
  clear h
  have V := hid (u8of_val : ∀ z, _)
  go_enter Try.func13, Try.ntmps13
  go_wp2
  go_loopw [0, 5] (fun vb vi wr => ∃ (i : Nat) (b : Option Addr) (cb : Nat), i ≤ 8 ∧ vi = .int .i64 i ∧ vb = .slice b (n + i) cb ∧ App w wr base 5 1 a n c (bv l) b (n + i) cb (bv (l ++ upto x i))) (fun _ vi _ => 8 - (intOf vi).toNat)
  case atStart => exact ⟨0, a, c, by omega, rfl, rfl, by have := App.start H.out; simpa [upto] using this⟩
  case round =>
    obtain ⟨i, b, cb, hi, rfl, rfl, hA⟩ := hrel
    have A := hid hA
    clear hA
    by_cases hlt : i < 8
    · have hiw : IntKind.i64.wrap (8 * (i : Int)) = 8 * (i : Int) := by rw [IntKind.wrap_i64]; omega
      have hiu : IntKind.u64.wrap (i : Int) = i := by unfold IntKind.wrap; simp [IntKind.bits, IntKind.signed]; omega
      have hiw : IntKind.u64.wrap (8 * (i : Int)) = 8 * (i : Int) := by unfold IntKind.wrap; simp [IntKind.bits, IntKind.signed]; omega
      have hm1 : n + i + 1 ≤ maxLen := by unfold maxLen; omega
      have hm2 : (n + i + 1) * 1 ≤ 140737488355328 := by omega
      have E := hid (upto_succ x i)
      go_wp2_with (at_builtin; refine wpList_app rfl _ _ _ _ rfl base 5 1 1 _ et_u8 _ (n + i) _ _ rfl (A.out.f ((Ch.refl _ wr).alloc _)).own _ 1 _ rfl ((lit1 wr _ (by8 x i) (V.out _)).src Try.underlying22 (bv_one _)) hm1 hm2 (Nat.le_trans hbase (A.out.ch.alloc _).size) ?_; intro a3 c3 w3 hO hS hC hN; have HA := hid ((A.out.f ((Ch.refl _ wr).alloc _)).step hO hS hC hN); clear hO hS hC hN)
      go_roundw
      case rel => exact ⟨i + 1, a3, c3, by omega, by go_num, rfl, by have := HA.out; rw [← bv_append, List.append_assoc, ← E.out] at this; exact this⟩
      case measure => simp [intOf]; omega
    · obtain rfl : i = 8 := by omega
      go_wp2
      go_ret
      exact ⟨b, cb, rfl, A.out⟩

set_option maxRecDepth 100000 in
set_option maxHeartbeats 1000000 in
theorem rbyte_any (base : Nat) (a : Option Addr) (n c : Nat) (l : List UInt8) (x : Int) (w : World) (h : Own w base 5 1 a n c (bv l)) (hn : n ≤ 1000000) (hbase : base ≤ w.heap.size) :
    Calls Try.prog 15 #[.slice a n c, .int .i64 x] w (AppPost w base a n c l [u8of x] (n + 1)) := by
  have A := hid (App.start h)
  clear h
  have V := hid (u8of_val : ∀ z, _)
  have hm1 : n + 1 ≤ maxLen := by unfold maxLen; omega
  have hm2 : (n + 1) * 1 ≤ 140737488355328 := by omega
  go_enter Try.func15, Try.ntmps15
  go_wp2_with (at_builtin; refine wpList_app rfl _ _ _ _ rfl base 5 1 1 _ et_u8 _ n _ _ rfl (A.out.f ((Ch.refl _ w).alloc _)).own _ 1 _ rfl ((lit1 w _ (u8of x) (V.out _)).src Try.underlying22 (bv_one _)) hm1 hm2 (Nat.le_trans hbase (A.out.ch.alloc _).size) ?_; intro a3 c3 w3 hO hS hC hN; have HA := hid ((A.out.f ((Ch.refl _ w).alloc _)).step hO hS hC hN); clear hO hS hC hN)
  go_ret
  exact ⟨a3, c3, rfl, by have := HA.out; rw [← bv_append] at this; exact this⟩

theorem src_str (w : World) (l : List UInt8) : Src Try.prog 1 9 (.string (str l)) l.length (bv l) w := by
  have h := Src.ofString (P := Try.prog) w Try.underlying9 (str l)
  have e : byteCells (str l) = bv l := by simp [byteCells, bv, str]
  rw [e, str_size] at h
  exact h

set_option maxRecDepth 100000 in
set_option maxHeartbeats 1000000 in
theorem rtext_any (base : Nat) (a : Option Addr) (n c : Nat) (l s : List UInt8) (w : World) (h : Own w base 5 1 a n c (bv l)) (hn : n ≤ 1000000) (hs : s.length ≤ 1000000) (hbase : base ≤ w.heap.size) :
    Calls Try.prog 17 #[.slice a n c, .string (str s)] w (AppPost w base a n c l (txt s) (n + 2 + min s.length 65535)) := by
  have A := hid (App.start h)
  clear h
  obtain ⟨K, hK⟩ : ∃ K, K = min s.length 65535 := ⟨_, rfl⟩
  have htx : txt s = [u8of (K : Int), u8of ((K : Int) / 256)] ++ s.take K := by
    unfold txt
    rw [← hK]
    congr 1
    rcases Nat.lt_or_ge s.length 65535 with h | h
    · rw [List.take_of_length_le (by omega), List.take_of_length_le (by omega)]
    · have : K = 65535 := by omega
      rw [this]
  rw [htx, ← hK]
  have hb1 : ((u8of (K : Int)).toNat : Int) = (K : Int) % 256 := u8of_val _
  have hb2 : ((u8of ((K : Int) / 256)).toNat : Int) = (K : Int) / 256 := by rw [u8of_val]; omega
  have hS : ∀ w, Src Try.prog 1 9 (.string (str (s.take K))) K (bv (s.take K)) w := by
    intro w
    have := src_str w (s.take K)
    rw [List.length_take, show min K s.length = K by omega] at this
    exact this
  have S := hid hS
  have hm1 : n + 2 + K ≤ maxLen := by unfold maxLen; omega
  have hm2 : (n + 2 + K) * 1 ≤ 140737488355328 := by omega
  have hm3 : n + 2 ≤ maxLen := by omega
  have hm4 : (n + 2) * 1 ≤ 140737488355328 := by omega
  have B1 := hid hb1
  have B2 := hid hb2
  clear htx hS hb1 hb2
  rcases Nat.lt_or_ge 65535 s.length with hlt | hge
  · have hk3 : min 65535 s.length = 65535 := by omega
    have hk0 : K = 65535 := by omega
    have HK := hid hk0
    have S' : Hid (∀ w, Src Try.prog 1 9 (.string (str (s.take 65535))) K (bv (s.take K)) w) := by
      have := S.out; rw [show s.take 65535 = s.take K by rw [hk0]]; exact hid this
    have B1' : Hid (((u8of (K : Int)).toNat : Int) = 255) := by have := B1.out; exact hid (by omega)
    have B2' : Hid (((u8of ((K : Int) / 256)).toNat : Int) = 255) := by have := B2.out; exact hid (by omega)
    clear hK hk0
    go_enter Try.func17, Try.ntmps17
    go_wp2_with (first
      | (at_builtin; refine wpList_app rfl _ _ _ _ rfl base 5 1 1 _ et_u8 _ n _ _ rfl (A.out.f ((Ch.refl _ w).alloc _)).own _ 2 _ rfl ((lit2 w _ _ (u8of (K : Int)) (u8of ((K : Int) / 256)) B1'.out B2'.out).src Try.underlying22 (bv_one _)) hm3 hm4 (Nat.le_trans hbase (A.out.ch.alloc _).size) ?_; intro a3 c3 w3 hO hS hC hN; have HA := hid ((A.out.f ((Ch.refl _ w).alloc _)).step hO hS hC hN); clear hO hS hC hN)
      | (at_builtin; refine wpList_app rfl _ _ _ _ rfl base 5 1 1 _ et_u8 _ (n + 2) _ _ rfl HA.out.own _ K _ rfl (S'.out _) hm1 hm2 (Nat.le_trans hbase HA.out.ch.size) ?_; intro a4 c4 w4 hO hS hC hN; have HB := hid (HA.out.step hO hS hC hN); clear hO hS hC hN))
    go_ret
    exact ⟨a4, c4, rfl, by have := HB.out; rw [← bv_append, ← bv_append, List.append_assoc] at this; exact this⟩
  · have hk0 : s.length = K := by omega
    have hk1 : s.take K = s := by rw [← hk0]; exact List.take_length
    have hk2 : K ≤ 65535 := by omega
    rw [hk1] at S ⊢
    have B1' : Hid (((u8of (K : Int)).toNat : Int) = (s.length : Int) % 256) := by have := B1.out; exact hid (by omega)
    have B2' : Hid (((u8of ((K : Int) / 256)).toNat : Int) = (s.length : Int) / 256) := by have := B2.out; exact hid (by omega)
    clear hK hk0 hk1
    go_enter Try.func17, Try.ntmps17
    go_wp2_with (first
      | (at_builtin; refine wpList_app rfl _ _ _ _ rfl base 5 1 1 _ et_u8 _ n _ _ rfl (A.out.f ((Ch.refl _ w).alloc _)).own _ 2 _ rfl ((lit2 w _ _ (u8of (K : Int)) (u8of ((K : Int) / 256)) B1'.out B2'.out).src Try.underlying22 (bv_one _)) hm3 hm4 (Nat.le_trans hbase (A.out.ch.alloc _).size) ?_; intro a3 c3 w3 hO hS hC hN; have HA := hid ((A.out.f ((Ch.refl _ w).alloc _)).step hO hS hC hN); clear hO hS hC hN)
      | (at_builtin; refine wpList_app rfl _ _ _ _ rfl base 5 1 1 _ et_u8 _ (n + 2) _ _ rfl HA.out.own _ K _ rfl (S.out _) hm1 hm2 (Nat.le_trans hbase HA.out.ch.size) ?_; intro a4 c4 w4 hO hS hC hN; have HB := hid (HA.out.step hO hS hC hN); clear hO hS hC hN))
    go_ret
    exact ⟨a4, c4, rfl, by have := HB.out; rw [← bv_append, ← bv_append, List.append_assoc] at this; exact this⟩
end Go.Proofs.Yteleabfbnlhkkaa

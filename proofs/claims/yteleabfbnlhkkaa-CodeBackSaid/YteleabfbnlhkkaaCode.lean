/- code (chapter 1): Int, Byte, Text; and the document's. -/
import Derived.Test.YteleabfbnlhkkaaStr
namespace Go.Proofs.Yteleabfbnlhkkaa
open Go.RowKit Go.Cx
set_option linter.unusedVariables false
set_option linter.unusedSimpArgs false

theorem lit1 (w : World) (z : Int) (b : UInt8) (h : (b.toNat : Int) = z) : Sl (w.alloc (.cells #[.int .u8 z] 5)) 1 (some ⟨w.heap.size, 0, none⟩) 1 1 (bv [b]) := by
  subst h; exact Sl.lit w #[.int .u8 (b.toNat : Int)] 5 (by simp [maxLen])
theorem lit2 (w : World) (y z : Int) (a b : UInt8) (h : (a.toNat : Int) = y) (h2 : (b.toNat : Int) = z) : Sl (w.alloc (.cells #[.int .u8 y, .int .u8 z] 5)) 1 (some ⟨w.heap.size, 0, none⟩) 2 2 (bv [a, b]) := by
  subst h; subst h2; exact Sl.lit w #[.int .u8 (a.toNat : Int), .int .u8 (b.toNat : Int)] 5 (by simp [maxLen])
/-- A number's byte. -/
def u8of (z : Int) : UInt8 := UInt8.ofNat (z % 256).toNat
theorem u8of_val (z : Int) : ((u8of z).toNat : Int) = z % 256 := by
  unfold u8of
  have h1 := Int.emod_nonneg z (by omega : (256 : Int) ≠ 0)
  have h2 := Int.emod_lt_of_pos z (by omega : (0 : Int) < 256)
  rw [UInt8.toNat_ofNat']
  omega
def by8 (x : Int) (i : Nat) : UInt8 := u8of (IntKind.u64.wrap x / 2 ^ (8 * i))
def upto (x : Int) (i : Nat) : List UInt8 := (List.range i).map (by8 x)
theorem upto_succ (x : Int) (i : Nat) : upto x (i + 1) = upto x i ++ [by8 x i] := by simp [upto, List.range_succ]
theorem upto_length (x : Int) (i : Nat) : (upto x i).length = i := by simp [upto]
/-- A number, in eight bytes. -/
def le8 (x : Int) : List UInt8 := upto x 8
theorem le8_length (x : Int) : (le8 x).length = 8 := upto_length x 8

def IntJump (w : World) (l : List UInt8) (n : Nat) (x : Int) (a' : Act) (w' : World) : Prop :=
  ∃ (i : Nat) (b : Option Addr) (cb : Nat) (u0 u1 u2 u3 u4 u5 u6 u7 u8 u9 u10 u11 u12 u13 u14 u15 u16 u17 u18 u19 u20 u21 u22 u23 : Value), a' = { tmps := #[u0, .int .i64 x, u2, u3, u4, .slice b (n + i) cb, .int .i64 i, u7, u8, u9, u10, u11, u12, u13, u14, u15, u16, u17, u18, u19, u20, u21, u22, u23], defers := [] } ∧ 1 ≤ i ∧ i ≤ 7 ∧
    Own w' w.heap.size 5 1 b (n + i) cb (bv (l ++ upto x i)) ∧ Ch (fun _ => False) w w'
set_option maxRecDepth 100000 in
set_option maxHeartbeats 1000000 in
theorem int_any (a : Option Addr) (n c : Nat) (l : List UInt8) (x : Int) (w : World) (h : Sl w 1 a n c (bv l)) (hn : n ≤ 1000000) :
    Calls Try.prog 12 #[.slice a n c, .int .i64 x] w (Fresh w 5 1 (n + 8) (bv (l ++ le8 x))) := by
  have H := hid h
  clear h
  have V := hid (u8of_val : ∀ z, _)
  have hn1 : n + 8 ≤ 140737488355328 := by omega
  have hn2 : n + 8 ≤ maxLen := by unfold maxLen; omega
  have hn3 : n ≤ 140737488355328 := by omega
  go_enter Try.func12, Try.ntmps12
  go_wp2
  refine wp_scope_jumps 0 (IntJump w l n x) (fun a' _ => 8 - (intOf (a'.tmps.getD 6 undef)).toNat) rfl ?_ ?_
  case refine_2 =>
    rintro a' w' ⟨i, b, cb, u0, u1, u2, u3, u4, u5, u6, u7, u8, u9, u10, u11, u12, u13, u14, u15, u16, u17, u18, u19, u20, u21, u22, u23, rfl, hi1, hi2, ho, hc⟩
    have O := hid ho
    have C := hid hc
    clear ho hc
    have hiw : IntKind.i64.wrap (8 * (i : Int)) = 8 * (i : Int) := by rw [IntKind.wrap_i64]; omega
    have hn : decide ((i : Int) < 0) = false := decide_eq_false (by omega)
    have hm1 : n + i + 1 ≤ maxLen := by unfold maxLen; omega
    have hm2 : (n + i + 1) * 1 ≤ 140737488355328 := by omega
    have LC := hid C.out.size
    have E := hid (upto_succ x i)
    rcases Nat.lt_or_ge i 7 with h7 | h7
    · have hw7 : IntKind.i64.wrap ((i : Int) + 1) = (i : Int) + 1 := by rw [IntKind.wrap_i64]; omega
      have hlt : (decide ((i : Int) + 1 < 8)) = true := decide_eq_true (by omega)
      go_wp2_with (at_builtin; (refine wpList_app rfl _ _ _ _ rfl w.heap.size 5 1 1 _ et_u8 _ (n + i) _ _ rfl (O.out.ch ((Ch.refl (fun _ => False) w').alloc _) (fun _ _ => id)) _ 1 _ rfl ((lit1 w' _ (by8 x i) (V.out _)).src Try.underlying22 (bv_one _)) hm1 hm2 (C.out.alloc _).size ?_; intro a3 c3 w3 hO hS hC hN; rw [← bv_append, List.append_assoc, ← E.out] at hO; have HO := hid hO; have HC := hid hC; clear hO hS hC hN))
      refine wp_goto ?_
      simp only [Exit.then, Exit.inBlock, Exit.jump]
      have hcast : ((i : Int) + 1) = ((i + 1 : Nat) : Int) := by omega
      rw [hcast]
      refine ⟨by trivial, ⟨i + 1, a3, c3, _, undef, _, _, _, undef, undef, _, _, _, _, _, _, _, _, _, _, _, _, _, _, _, _, _, rfl, by omega, by omega, HO.out, (C.out.alloc _).app_own (O.out.ch ((Ch.refl (fun _ => False) w').alloc _) (fun _ _ => id)) (Nat.le_refl _) HC.out⟩, ?_⟩
      simp [intOf]; omega
    · obtain rfl : i = 7 := by omega
      go_wp2_with (first
        | (at_builtin; refine wpList_app rfl _ _ _ _ rfl w.heap.size 5 1 1 _ et_u8 _ (n + 7) _ _ rfl (O.out.ch ((Ch.refl (fun _ => False) w').alloc _) (fun _ _ => id)) _ 1 _ rfl ((lit1 w' _ (by8 x 7) (V.out _)).src Try.underlying22 (bv_one _)) hm1 hm2 (C.out.alloc _).size ?_; intro a3 c3 w3 hO hS hC hN; rw [← bv_append, List.append_assoc, ← E.out] at hO; have HO := hid hO; have HC := hid ((C.out.alloc _).app_own (O.out.ch ((Ch.refl (fun _ => False) w').alloc _) (fun _ _ => id)) (Nat.le_refl _) hC); clear hO hS hC hN)
        | (go_at_call 31; refine (clone_any _ _ _ _ _ HO.out.sl (bv_one _) hn1).mono ?_; rintro e w1 ⟨a1, c1, rfl, ho1, hc1⟩; have O1 := hid ho1; have C1 := hid hc1; clear ho1 hc1))
      simp only [Exit.jump]
      go_ret
      exact ⟨a1, c1, rfl, O1.out.base_le HC.out.size, HC.out.f C1.out⟩
  · have E := hid (upto_succ x 0)
    have B0 : Hid (((by8 x 0).toNat : Int) = IntKind.u64.wrap x % 256) := hid (by have := u8of_val (IntKind.u64.wrap x / 2 ^ (8 * 0)); simpa [by8] using this)
    have hm1 : n + 0 + 1 ≤ maxLen := by omega
    have hm2 : (n + 0 + 1) * 1 ≤ 140737488355328 := by omega
    go_wp2_with (go_at_call 31; refine (clone_any a n c _ _ H.out (bv_one _) hn3).mono ?_; rintro e w1 ⟨a1, c1, rfl, ho1, hc1⟩; have O1 := hid ho1; have C1 := hid hc1; clear ho1 hc1)
    refine wp_label ?_
    go_wp2_with ((at_builtin; refine wpList_app rfl _ _ _ _ rfl w.heap.size 5 1 1 _ et_u8 _ n _ _ rfl (O1.out.ch ((Ch.refl (fun _ => False) w1).alloc _) (fun _ _ => id)) _ 1 _ rfl ((lit1 w1 _ (by8 x 0) B0.out).src Try.underlying22 (bv_one _)) hm1 hm2 (C1.out.alloc _).size ?_; intro a3 c3 w3 hO hS hC hN; rw [← bv_append] at hO; have HO := hid hO; have HC := hid hC; clear hO hS hC hN))
    refine wp_goto ?_
    simp only [Exit.then, Exit.inBlock, Exit.jump]
    exact ⟨by trivial, 1, a3, c3, _, undef, _, _, _, undef, undef, _, _, _, _, _, _, _, _, _, _, _, _, _, _, _, _, _, rfl, by omega, by omega, HO.out, (C1.out.alloc _).app_own (O1.out.ch ((Ch.refl (fun _ => False) w1).alloc _) (fun _ _ => id)) (Nat.le_refl _) HC.out⟩

/-! ### Byte, Text -/
theorem concat2 (w : World) (a1 : Option Addr) (n1 c1 : Nat) (l1 : List UInt8) (a2 : Option Addr) (n2 c2 : Nat) (l2 : List UInt8) (h1 : Sl w 1 a1 n1 c1 (bv l1)) (h2 : Sl w 1 a2 n2 c2 (bv l2)) (hb : n1 + n2 ≤ 1000000) (g : Nat) (hg : g = w.heap.size) :
    Calls Try.prog 32 #[.slice (some ⟨g, 0, none⟩) 2 2] (w.alloc (.cells #[.slice a1 n1 c1, .slice a2 n2 c2] 22)) (Fresh w 5 1 (n1 + n2) (bv (l1 ++ l2))) := by
  subst hg
  have e1 : l1.length = n1 := by have := h1.1; simpa [bv_length] using this
  have e2 : l2.length = n2 := by have := h2.1; simpa [bv_length] using this
  refine (concat_any _ 2 2 [l1, l2] _ (RowsAt.lit w #[.slice a1 n1 c1, .slice a2 n2 c2] 22 [l1, l2] (by simp [maxLen]) rfl ?_) (by omega) (by simp [e1, e2]; omega)).mono ?_
  · intro i l hl
    match i, hl with
    | 0, hl => simp at hl; subst hl; exact ⟨a1, c1, by simp [e1], by rw [e1]; exact h1⟩
    | 1, hl => simp at hl; subst hl; exact ⟨a2, c2, by simp [e2], by rw [e2]; exact h2⟩
  · rintro e w' ⟨a', c', he, ho, hc⟩
    have e3 : [l1, l2].flatten = l1 ++ l2 := by simp
    rw [e3] at he ho
    rw [List.length_append, e1, e2] at he ho
    exact ⟨a', c', he, ho.base_le (by simp), ((Ch.refl _ w).alloc _).f hc⟩
theorem concat3 (w : World) (a1 : Option Addr) (n1 c1 : Nat) (l1 : List UInt8) (a2 : Option Addr) (n2 c2 : Nat) (l2 : List UInt8) (a3 : Option Addr) (n3 c3 : Nat) (l3 : List UInt8) (h1 : Sl w 1 a1 n1 c1 (bv l1)) (h2 : Sl w 1 a2 n2 c2 (bv l2)) (h3 : Sl w 1 a3 n3 c3 (bv l3)) (hb : n1 + n2 + n3 ≤ 2000000) (g : Nat) (hg : g = w.heap.size) :
    Calls Try.prog 32 #[.slice (some ⟨g, 0, none⟩) 3 3] (w.alloc (.cells #[.slice a1 n1 c1, .slice a2 n2 c2, .slice a3 n3 c3] 22)) (Fresh w 5 1 (n1 + n2 + n3) (bv (l1 ++ l2 ++ l3))) := by
  subst hg
  have e1 : l1.length = n1 := by have := h1.1; simpa [bv_length] using this
  have e2 : l2.length = n2 := by have := h2.1; simpa [bv_length] using this
  have e3 : l3.length = n3 := by have := h3.1; simpa [bv_length] using this
  refine (concat_any _ 3 3 [l1, l2, l3] _ (RowsAt.lit w #[.slice a1 n1 c1, .slice a2 n2 c2, .slice a3 n3 c3] 22 [l1, l2, l3] (by simp [maxLen]) rfl ?_) (by omega) (by simp [e1, e2, e3]; omega)).mono ?_
  · intro i l hl
    match i, hl with
    | 0, hl => simp at hl; subst hl; exact ⟨a1, c1, by simp [e1], by rw [e1]; exact h1⟩
    | 1, hl => simp at hl; subst hl; exact ⟨a2, c2, by simp [e2], by rw [e2]; exact h2⟩
    | 2, hl => simp at hl; subst hl; exact ⟨a3, c3, by simp [e3], by rw [e3]; exact h3⟩
  · rintro e w' ⟨a', c', he, ho, hc⟩
    have e4 : [l1, l2, l3].flatten = l1 ++ l2 ++ l3 := by simp
    rw [e4] at he ho
    rw [List.length_append, List.length_append, e1, e2, e3] at he ho
    exact ⟨a', c', he, ho.base_le (by simp), ((Ch.refl _ w).alloc _).f hc⟩

theorem Fresh.of {w w1 w' : World} {e : TypeId} {size n : Nat} {xs : List Value} {en : Ending} (h : Fresh w1 e size n xs en w') (hc : Ch (fun _ => False) w w1) : Fresh w e size n xs en w' := by
  obtain ⟨a', c', he, ho, hc'⟩ := h
  exact ⟨a', c', he, ho.base_le hc.size, hc.f hc'⟩

set_option maxRecDepth 100000 in
set_option maxHeartbeats 400000 in
theorem byte_any (a : Option Addr) (n c : Nat) (l : List UInt8) (x : Int) (w : World) (h : Sl w 1 a n c (bv l)) (hn : n ≤ 900000) :
    Calls Try.prog 14 #[.slice a n c, .int .i64 x] w (Fresh w 5 1 (n + 1) (bv (l ++ [u8of x]))) := by
  have H := hid h
  clear h
  have hb : n + 1 ≤ 1000000 := by omega
  go_enter Try.func14, Try.ntmps14
  go_wp2_with (go_at_call 32; refine (concat2 (w.alloc (.cells #[.int .u8 (x % 256)] 5)) _ _ _ l _ _ _ [u8of x] (H.out.ch ((Ch.refl (fun _ => False) w).alloc _) (fun _ _ => id)) (lit1 w _ (u8of x) (u8of_val x)) hb _ (by simp)).mono ?_; rintro e w1 ⟨a1, c1, rfl, ho1, hc1⟩; have O1 := hid ho1; have C1 := hid hc1; clear ho1 hc1)
  go_ret
  exact ⟨a1, c1, rfl, O1.out.base_le (by simp), ((Ch.refl _ w).alloc _).f C1.out⟩

/-- A text, with its length ahead. -/
def txt (s : List UInt8) : List UInt8 := [u8of (min s.length 65535 : Nat), u8of ((min s.length 65535 : Nat) / 256 : Int)] ++ s.take 65535
theorem txt_length (s : List UInt8) : (txt s).length = 2 + min s.length 65535 := by simp [txt, Nat.min_comm]; omega
set_option maxRecDepth 100000 in
set_option maxHeartbeats 400000 in
theorem text_any (a : Option Addr) (n c : Nat) (l s : List UInt8) (w : World) (h : Sl w 1 a n c (bv l)) (hn : n ≤ 900000) (hs : s.length ≤ 1000000) :
    Calls Try.prog 16 #[.slice a n c, .string (str s)] w (Fresh w 5 1 (n + 2 + min s.length 65535) (bv (l ++ txt s))) := by
  have H := hid h
  clear h
  obtain ⟨k, hk⟩ : ∃ k, k = min s.length 65535 := ⟨_, rfl⟩
  have hk1 : min (s.length : Int) 65535 = (k : Int) := by omega
  have hk2 : min k s.length = k := by omega
  have hk3 : (s.take k).length = k := by rw [List.length_take]; omega
  have hk4 : k ≤ 65535 := by omega
  have hk5 : (0 : Int) ≤ k := by omega
  have hk6 : (k : Int) ≤ s.length := by omega
  have hk7 : (k : Int).toNat = k := by omega
  have htx : txt s = [u8of (k : Int), u8of ((k : Int) / 256)] ++ s.take k := by
    unfold txt
    rw [← hk]
    congr 1
    rcases Nat.lt_or_ge s.length 65535 with h | h
    · rw [List.take_of_length_le (by omega), List.take_of_length_le (by omega)]
    · have : k = 65535 := by omega
      rw [this]
  rw [htx, ← hk]
  have hb1 : ((u8of (k : Int)).toNat : Int) = (k : Int) % 256 := u8of_val _
  have hb2 : ((u8of ((k : Int) / 256)).toNat : Int) = (k : Int) / 256 := by rw [u8of_val]; omega
  have B1 := hid hb1
  have B2 := hid hb2
  have HK := hid hk
  have hc := to_bytes (s.take k)
  rw [hk3] at hc
  have hl : ∀ (w : World) (g : Nat), g = w.heap.size → Sl (Lib.bytesWorld w 5 (str (s.take k))) 1 (some ⟨g, 0, none⟩) k (grownCap w k 0 5) (bv (s.take k)) := by
    rintro w g rfl
    have := Sl.bytesWorld w 5 (s.take k) (by rw [hk3]; unfold maxLen; omega)
    rwa [hk3] at this
  have HL := hid hl
  clear hk hb1 hb2 hl htx
  have hbb : n + 2 + k ≤ 2000000 := by omega
  obtain ⟨W1, hW1⟩ : ∃ W1 : World, W1 = w.alloc (.cells #[.int .u8 ((k : Int) % 256), .int .u8 ((k : Int) / 256)] 5) := ⟨_, rfl⟩
  have hCW : Ch (fun _ => False) w (Lib.bytesWorld W1 5 (str (s.take k))) := by rw [hW1]; exact ((Ch.refl _ w).alloc _).f (Ch.bytesWorld _ _ _)
  have hS2 : Sl (Lib.bytesWorld W1 5 (str (s.take k))) 1 (some ⟨w.heap.size, 0, none⟩) 2 2 (bv [u8of (k : Int), u8of ((k : Int) / 256)]) := by
    rw [hW1]; exact (lit2 w _ _ _ _ B1.out B2.out).ch (Ch.bytesWorld _ _ _) (fun _ _ => id)
  have hS3 := HL.out W1 (w.heap.size + 1) (by rw [hW1]; simp)
  have CW := hid hCW
  have S2 := hid hS2
  have S3 := hid hS3
  have S1 := hid (H.out.ch hCW (fun _ _ => id))
  have hg : ∀ g : Nat, g = (Lib.bytesWorld W1 5 (str (s.take k))).heap.size → g = (Lib.bytesWorld W1 5 (str (s.take k))).heap.size := fun _ h => h
  clear hCW hS2 hS3 hg
  subst hW1
  go_enter Try.func16, Try.ntmps16
  go_wp2_with (go_at_call 32; refine (concat3 (Lib.bytesWorld (w.alloc _) _ _) _ _ _ l _ _ _ _ _ _ _ (s.take k) S1.out S2.out S3.out hbb _ rfl).mono ?_; rintro e w1 ⟨a1, c1, rfl, ho1, hc1⟩; have O1 := hid ho1; have C1 := hid hc1; clear ho1 hc1)
  go_ret
  exact ⟨a1, c1, rfl, by have := O1.out; rw [List.append_assoc] at this; exact this.base_le CW.out.size, CW.out.f C1.out⟩
end Go.Proofs.Yteleabfbnlhkkaa

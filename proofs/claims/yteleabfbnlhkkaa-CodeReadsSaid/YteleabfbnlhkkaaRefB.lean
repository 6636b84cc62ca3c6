/- comitiaref1's Reader: Int, Byte, Text. -/
import Derived.Test.YteleabfbnlhkkaaRef
namespace Go.Proofs.Yteleabfbnlhkkaa
open Go.RowKit Go.Cx
set_option linter.unusedVariables false
set_option linter.unusedSimpArgs false

theorem or8 (u c : Nat) (hu : u < 2 ^ 56) (hc : c < 256) : bits BinOp.or IntKind.u64 (IntKind.u64.wrap ((u : Int) * 256)) (IntKind.u64.wrap (c : Int)) = ((c + 256 * u : Nat) : Int) := by
  have e1 : IntKind.u64.wrap ((u : Int) * 256) = ((256 * u : Nat) : Int) := by rw [wrap_u64]; omega
  have e2 : IntKind.u64.wrap (c : Int) = c := by rw [wrap_u64]; omega
  rw [e1, e2, u64_or_nat _ _ (by omega) (by omega)]
  have := Nat.two_pow_add_eq_or_of_lt (i := 8) (b := c) (by omega) u
  rw [show (2 : Nat) ^ 8 = 256 by rfl] at this
  rw [← this]; omega

set_option maxRecDepth 100000 in
set_option maxHeartbeats 800000 in
theorem xbyte_ok (q : Nat) (a : Option Addr) (n c P : Nat) (L : List UInt8) (b : UInt8) (l : List UInt8) (w : World) (h1 : RC w q a n c P 0) (hn : n ≤ 1000000) (hk : P + 1 ≤ n) (hl : L.drop P = b :: l) (hS : ∀ w', Ch (fun k => k = q) w w' → Sl w' 1 a n c (bv L)) :
    Calls Try.prog 26 #[.pointer (some ⟨q, 0, none⟩)] w (XPost w q a n c (P + 1) 0 (.int .i64 b.toNat)) := by
  have H1 := hid h1
  have HS := hid hS
  have e : (L.drop P).take 1 = [b] := by rw [hl]; rfl
  have HE := hid e
  have hb := b.toNat_lt
  have hbw : IntKind.i64.wrap (b.toNat : Int) = b.toNat := by rw [IntKind.wrap_i64]; omega
  clear h1 hS hl e
  go_enter Try.func26, Try.ntmps26
  go_wp2_with (go_at_call 35; refine (xtake_ok q a n c P L 1 _ H1.out hn hk HS.out).mono ?_; rw [HE.out]; rintro en w1 ⟨a', c', rfl, hs, hr, hc⟩; obtain ⟨g, o, rfl⟩ := hs.spot (by simp [bv]); have y0 := hs.at_ (j := 0) (u := .int .u8 (b.toNat : Int)) rfl; simp only [Nat.add_zero] at y0; have R := hid hr; have C := hid hc; clear hs hr hc)
  go_ret
  exact ⟨rfl, R.out, C.out⟩
set_option maxRecDepth 100000 in
set_option maxHeartbeats 800000 in
theorem xbyte_bad (q : Nat) (a : Option Addr) (n c P : Nat) (e : Int) (w : World) (h1 : RC w q a n c P e) (hP : P ≤ n) (hn : n ≤ 1000000) (hb : e ≠ 0 ∨ n - P < 1) :
    Calls Try.prog 26 #[.pointer (some ⟨q, 0, none⟩)] w (XPost w q a n c P (er e 8) (.int .i64 0)) := by
  have H1 := hid h1
  have HB := hid hb
  clear h1 hb
  go_enter Try.func26, Try.ntmps26
  go_wp2_with (go_at_call 35; refine (xtake_bad q a n c P e 1 _ H1.out hP hn HB.out).mono ?_; rintro en w1 ⟨rfl, hr, hc⟩; have R := hid hr; have C := hid hc; clear hr hc)
  go_ret
  exact ⟨rfl, R.out, C.out⟩
set_option maxRecDepth 100000 in
set_option maxHeartbeats 800000 in
theorem xtext_bad (q : Nat) (a : Option Addr) (n c P : Nat) (e : Int) (w : World) (h1 : RC w q a n c P e) (hP : P ≤ n) (hn : n ≤ 1000000) (hb : e ≠ 0 ∨ n - P < 2) :
    Calls Try.prog 27 #[.pointer (some ⟨q, 0, none⟩)] w (XPost w q a n c P (er e 8) (.string (str []))) := by
  have H1 := hid h1
  have HB := hid hb
  clear h1 hb
  go_enter Try.func27, Try.ntmps27
  go_wp2_with (go_at_call 35; refine (xtake_bad q a n c P e 2 _ H1.out hP hn HB.out).mono ?_; rintro en w1 ⟨rfl, hr, hc⟩; have R := hid hr; have C := hid hc; clear hr hc)
  go_ret
  exact ⟨rfl, R.out, C.out⟩
set_option maxRecDepth 100000 in
set_option maxHeartbeats 800000 in
theorem xint_bad (q : Nat) (a : Option Addr) (n c P : Nat) (e : Int) (w : World) (h1 : RC w q a n c P e) (hP : P ≤ n) (hn : n ≤ 1000000) (hb : e ≠ 0 ∨ n - P < 8) :
    Calls Try.prog 25 #[.pointer (some ⟨q, 0, none⟩)] w (XPost w q a n c P (er e 8) (.int .i64 0)) := by
  have H1 := hid h1
  have HB := hid hb
  clear h1 hb
  go_enter Try.func25, Try.ntmps25
  go_wp2_with (go_at_call 35; refine (xtake_bad q a n c P e 8 _ H1.out hP hn HB.out).mono ?_; rintro en w1 ⟨rfl, hr, hc⟩; have R := hid hr; have C := hid hc; clear hr hc)
  go_loopw [3, 5] (fun vu vi wr => vi = .int .i64 (-1) ∧ vu = .int .u64 0 ∧ w1 = wr) (fun _ _ _ => 0)
  case atStart => exact ⟨rfl, rfl, rfl⟩
  case round =>
    obtain ⟨rfl, rfl, rfl⟩ := hrel
    go_wp2
    go_ret
    exact ⟨rfl, R.out, C.out⟩
set_option maxRecDepth 100000 in
set_option maxHeartbeats 800000 in
theorem xint_ok (q : Nat) (a : Option Addr) (n c P : Nat) (L : List UInt8) (w : World) (h1 : RC w q a n c P 0) (hn : n ≤ 1000000) (hnL : n = L.length) (hk : P + 8 ≤ n) (hS : ∀ w', Ch (fun k => k = q) w w' → Sl w' 1 a n c (bv L)) :
    Calls Try.prog 25 #[.pointer (some ⟨q, 0, none⟩)] w (XPost w q a n c (P + 8) 0 (.int .i64 (wrap64 (leNum ((L.drop P).take 8) : Nat)))) := by
  have H1 := hid h1
  have HS := hid hS
  have hl8 : ((L.drop P).take 8).length = 8 := by rw [List.length_take, List.length_drop]; omega
  generalize hM : (L.drop P).take 8 = M at hl8 ⊢
  have HM := hid hM
  have HL := hid hl8
  clear h1 hS hM hl8 hnL
  go_enter Try.func25, Try.ntmps25
  go_wp2_with (go_at_call 35; refine (xtake_ok q a n c P L 8 _ H1.out hn hk HS.out).mono ?_; rw [HM.out]; rintro en w1 ⟨a', c', rfl, hs, hr, hc⟩; have S := hid hs; have R := hid hr; have C := hid hc; clear hs hr hc)
  go_loopw [3, 5] (fun vu vi wr => ∃ j : Nat, j ≤ 8 ∧ vi = .int .i64 ((j : Int) - 1) ∧ vu = .int .u64 (leNum (M.drop j) : Nat) ∧ w1 = wr) (fun _ vi _ => (intOf vi + 1).toNat)
  case atStart => exact ⟨8, by omega, rfl, by rw [List.drop_of_length_le (by rw [HL.out]; omega)]; rfl, rfl⟩
  case round =>
    obtain ⟨j, hj, rfl, rfl, rfl⟩ := hrel
    cases j with
    | zero =>
      rw [List.drop_zero]
      go_wp2
      go_ret
      exact ⟨rfl, R.out, C.out⟩
    | succ i =>
      have hii : (((i + 1 : Nat) : Int) - 1) = (i : Int) := by omega
      rw [hii]
      obtain ⟨b, hb⟩ : ∃ b, M[i]? = some b := ⟨_, List.getElem?_eq_getElem (by rw [HL.out]; omega)⟩
      obtain ⟨g, o, rfl⟩ := S.out.spot (by intro e; have := congrArg List.length e; rw [bv_length, HL.out] at this; simp at this)
      have hcell := S.out.at_ (j := i) (u := .int .u8 (b.toNat : Int)) (by rw [bv_get, hb]; rfl)
      have e1 : leNum (M.drop i) = b.toNat + 256 * leNum (M.drop (i + 1)) := by
        rw [List.drop_eq_getElem_cons (List.getElem?_eq_some_iff.1 hb).1, (List.getElem?_eq_some_iff.1 hb).2]; rfl
      have hlt : leNum (M.drop (i + 1)) < 2 ^ 56 := by
        have h1 := leNum_lt (M.drop (i + 1))
        rw [List.length_drop, HL.out] at h1
        exact Nat.lt_of_lt_of_le h1 (Nat.pow_le_pow_right (by decide) (by omega))
      have OR := or8 _ b.toNat hlt b.toNat_lt
      rw [← e1] at OR
      have i1 : (0 : Int) ≤ i := by omega
      have i2 : (i : Int) < 8 := by omega
      generalize leNum (M.drop (i + 1)) = u at OR ⊢
      clear e1 hlt hb hii
      go_wp2
      go_roundw
      case rel => exact ⟨i, by omega, rfl, rfl, trivial⟩
      case measure => simp [intOf]

/-! ### Text -/
theorem le2 (L : List UInt8) (P : Nat) (b0 b1 : UInt8) (r : List UInt8) (h : L.drop P = b0 :: b1 :: r) : leNum ((L.drop P).take 2) = b0.toNat + 256 * b1.toNat := by rw [h]; simp [leNum]
set_option maxRecDepth 100000 in
set_option maxHeartbeats 1600000 in
theorem xtext_ok (q : Nat) (a : Option Addr) (n c P : Nat) (L : List UInt8) (b0 b1 : UInt8) (r : List UInt8) (k : Nat) (w : World) (h1 : RC w q a n c P 0) (hn : n ≤ 1000000) (hnL : n = L.length) (h2 : P + 2 ≤ n) (hd : L.drop P = b0 :: b1 :: r) (hk : k = b0.toNat + 256 * b1.toNat) (hl : P + 2 + k ≤ n)
    (hS : ∀ w', Ch (fun k => k = q) w w' → Sl w' 1 a n c (bv L)) :
    Calls Try.prog 27 #[.pointer (some ⟨q, 0, none⟩)] w (XPost w q a n c (P + 2 + k) 0 (.string (str ((L.drop (P + 2)).take k)))) := by
  have H1 := hid h1
  have HS := hid hS
  have e : (L.drop P).take 2 = [b0, b1] := by rw [hd]; rfl
  have HE := hid e
  have g0 := b0.toNat_lt
  have g1 := b1.toNat_lt
  have v0 : IntKind.i64.wrap (b0.toNat : Int) = b0.toNat := by rw [IntKind.wrap_i64]; omega
  have v1 : IntKind.i64.wrap (b1.toNat : Int) = b1.toNat := by rw [IntKind.wrap_i64]; omega
  have v2 : IntKind.i64.wrap (256 * (b1.toNat : Int)) = 256 * (b1.toNat : Int) := by rw [IntKind.wrap_i64]; omega
  have v3 : IntKind.i64.wrap ((b0.toNat : Int) + 256 * (b1.toNat : Int)) = (k : Int) := by rw [IntKind.wrap_i64]; omega
  have T := hid True.intro
  clear h1 hS hd e hk
  go_enter Try.func27, Try.ntmps27
  go_wp2_with (go_at_call 35; have T2 := T.out; refine (xtake_ok q a n c P L 2 _ H1.out hn h2 HS.out).mono ?_; rw [HE.out]; rintro en w1 ⟨a', c', rfl, hs, hr, hc⟩; obtain ⟨g, o, rfl⟩ := hs.spot (by simp [bv]); have y0 := hs.at_ (j := 0) (u := .int .u8 (b0.toNat : Int)) rfl; have y1 := hs.at_ (j := 1) (u := .int .u8 (b1.toNat : Int)) rfl; simp only [Nat.add_zero] at y0; have R := hid hr; have C := hid hc; clear hs hr hc T T2)
  have hS1 : ∀ w', Ch (fun k => k = q) w1.drew w' → Sl w' 1 a n c (bv L) := fun w' h => HS.out w' ((C.out.drew).trans h (fun _ _ h => h))
  have R1 : Hid (RC w1.drew q a n c (P + 2) 0) := R
  have CD := hid C.out.drew
  have HS1 := hid hS1
  have y0' : w1.drew.cell? ⟨g, o, none⟩ = some (.int .u8 (b0.toNat : Int)) := y0
  have y1' : w1.drew.cell? ⟨g, o + 1, none⟩ = some (.int .u8 (b1.toNat : Int)) := y1
  clear hS1
  go_region_with (go_at_call 35; refine (xtake_ok q a n c (P + 2) L k _ R1.out hn hl HS1.out).mono ?_; rintro en w2 ⟨a2, c2, rfl, hs, hr, hc⟩; have X := string_of hs w2 rfl; have R2 := hid hr; have C2 := hid (CD.out.trans hc (fun _ _ h => h)); clear hs hr hc)
  all_goals (
    go_wp2
    go_ret
    exact ⟨rfl, R2.out, C2.out⟩)
set_option maxRecDepth 100000 in
set_option maxHeartbeats 1600000 in
theorem xtext_cut (q : Nat) (a : Option Addr) (n c P : Nat) (L : List UInt8) (b0 b1 : UInt8) (r : List UInt8) (k : Nat) (w : World) (h1 : RC w q a n c P 0) (hn : n ≤ 1000000) (hnL : n = L.length) (h2 : P + 2 ≤ n) (hd : L.drop P = b0 :: b1 :: r) (hk : k = b0.toNat + 256 * b1.toNat) (hl : n - (P + 2) < k)
    (hS : ∀ w', Ch (fun k => k = q) w w' → Sl w' 1 a n c (bv L)) :
    Calls Try.prog 27 #[.pointer (some ⟨q, 0, none⟩)] w (XPost w q a n c (P + 2) 8 (.string (str []))) := by
  have H1 := hid h1
  have HS := hid hS
  have e : (L.drop P).take 2 = [b0, b1] := by rw [hd]; rfl
  have HE := hid e
  have g0 := b0.toNat_lt
  have g1 := b1.toNat_lt
  have v0 : IntKind.i64.wrap (b0.toNat : Int) = b0.toNat := by rw [IntKind.wrap_i64]; omega
  have v1 : IntKind.i64.wrap (b1.toNat : Int) = b1.toNat := by rw [IntKind.wrap_i64]; omega
  have v2 : IntKind.i64.wrap (256 * (b1.toNat : Int)) = 256 * (b1.toNat : Int) := by rw [IntKind.wrap_i64]; omega
  have v3 : IntKind.i64.wrap ((b0.toNat : Int) + 256 * (b1.toNat : Int)) = (k : Int) := by rw [IntKind.wrap_i64]; omega
  have T := hid True.intro
  have HLK := hid hl
  clear h1 hS hd e hk
  go_enter Try.func27, Try.ntmps27
  go_wp2_with (go_at_call 35; have T2 := T.out; refine (xtake_ok q a n c P L 2 _ H1.out hn h2 HS.out).mono ?_; rw [HE.out]; rintro en w1 ⟨a', c', rfl, hs, hr, hc⟩; obtain ⟨g, o, rfl⟩ := hs.spot (by simp [bv]); have y0 := hs.at_ (j := 0) (u := .int .u8 (b0.toNat : Int)) rfl; have y1 := hs.at_ (j := 1) (u := .int .u8 (b1.toNat : Int)) rfl; simp only [Nat.add_zero] at y0; have R := hid hr; have C := hid hc; clear hs hr hc T T2)
  have R1 : Hid (RC w1.drew q a n c (P + 2) 0) := R
  have CD := hid C.out.drew
  have y0' : w1.drew.cell? ⟨g, o, none⟩ = some (.int .u8 (b0.toNat : Int)) := y0
  have y1' : w1.drew.cell? ⟨g, o + 1, none⟩ = some (.int .u8 (b1.toNat : Int)) := y1
  go_region_with (go_at_call 35; refine (xtake_bad q a n c (P + 2) 0 k _ R1.out h2 hn (.inr HLK.out)).mono ?_; rintro en w2 ⟨rfl, hr, hc⟩; have X := string_nil w2; have R2 := hid hr; have C2 := hid (CD.out.trans hc (fun _ _ h => h)); clear hr hc)
  all_goals (
    go_wp2
    go_ret
    exact ⟨rfl, R2.out, C2.out⟩)
end Go.Proofs.Yteleabfbnlhkkaa

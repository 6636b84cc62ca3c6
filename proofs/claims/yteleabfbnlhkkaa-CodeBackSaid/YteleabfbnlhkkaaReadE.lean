/- CodeEnds. -/
import Derived.Test.YteleabfbnlhkkaaReadL
import Derived.Deep.RegionWith
namespace Go.Proofs.Yteleabfbnlhkkaa
open Go.RowKit Go.Cx
set_option linter.unusedVariables false
set_option linter.unusedSimpArgs false

theorem by8_toNat (x : Int) (i : Nat) : (by8 x i).toNat = (IntKind.u64.wrap x).toNat / 2 ^ (8 * i) % 256 := by
  have h := u8of_val (IntKind.u64.wrap x / 2 ^ (8 * i))
  have h0 : 0 ≤ IntKind.u64.wrap x := by rw [wrap_u64]; omega
  obtain ⟨m, hm⟩ := Int.eq_ofNat_of_zero_le h0
  unfold by8
  rw [hm] at h ⊢
  have e : ((m : Int) / 2 ^ (8 * i)) = ((m / 2 ^ (8 * i) : Nat) : Int) := by simp
  rw [e] at h ⊢
  simp only [Int.toNat_natCast]
  omega
theorem leNum_upto (x : Int) (i : Nat) : leNum (upto x i) = (IntKind.u64.wrap x).toNat % 2 ^ (8 * i) := by
  induction i with
  | zero => simp [upto, leNum, Nat.mod_one]
  | succ i ih =>
    rw [upto_succ, leNum_snoc, ih, upto_length, by8_toNat, show 8 * (i + 1) = 8 * i + 8 by omega, Nat.pow_add, Nat.mod_mul]
theorem le8_back (x : Int) (h : I64 x) : wrap64 (leNum (le8 x) : Nat) = x := by
  unfold le8
  rw [leNum_upto, wrap_u64]
  have : (2 : Nat) ^ (8 * 8) = 18446744073709551616 := by decide
  rw [this]
  obtain ⟨h1, h2⟩ := h
  unfold wrap64
  omega
theorem and255 (x : Int) (h : I64 x) : bits BinOp.and IntKind.i64 x 255 = x % 256 := by
  have e : (BitVec.ofInt 64 x).toNat = (x % 18446744073709551616).toNat := by simp [BitVec.toNat_ofInt]
  unfold bits
  show IntKind.i64.wrap (((BitVec.ofInt 64 x &&& BitVec.ofInt 64 255).toNat : Nat) : Int) = x % 256
  rw [BitVec.toNat_and, e]
  have e2 : (BitVec.ofInt 64 (255 : Int)).toNat = 2 ^ 8 - 1 := by decide
  rw [e2, Nat.and_two_pow_sub_one_eq_mod, IntKind.wrap_i64]
  omega

/-- A number and its last byte. -/
def enc (z : Int) : List UInt8 := le8 z ++ [u8of z]
theorem enc_length (z : Int) : (enc z).length = 9 := by simp [enc, le8_length]
theorem encs_length (L : List Int) : (L.flatMap enc).length = 9 * L.length := by
  induction L with
  | nil => rfl
  | cons a l ih => rw [List.flatMap_cons, List.length_append, ih, enc_length, List.length_cons]; omega
theorem encs_snoc {L : List Int} {i : Nat} {z : Int} (h : L[i]? = some z) : (L.take (i + 1)).flatMap enc = (L.take i).flatMap enc ++ le8 z ++ [u8of z] := by
  rw [List.take_add_one, h, List.flatMap_append]; simp [enc]
theorem encs_cons {L : List Int} {i : Nat} {z : Int} (h : L[i]? = some z) : (L.drop i).flatMap enc = le8 z ++ (u8of z :: (L.drop (i + 1)).flatMap enc) := by
  have : L.drop i = z :: L.drop (i + 1) := by
    rw [List.drop_eq_getElem_cons (List.getElem?_eq_some_iff.1 h).1]
    rw [(List.getElem?_eq_some_iff.1 h).2]
  rw [this, List.flatMap_cons]; simp [enc]

/-! ### CodeEnds -/
set_option maxRecDepth 100000 in
set_option maxHeartbeats 2000000 in
theorem CodeEnds_walk (w : World) (x : Int) (hx : I64 x) (y : Int) (hy : I64 y) :
    Calls Try.prog 5 #[.int .i64 x, .int .i64 y] w fun e w' => e = .returned (.bool true) ∧ Below w.heap.size w w' := by
  refine Calls.mono (R := True_ w) ?_ (fun e w' h => ⟨h.1, h.2.below0⟩)
  obtain ⟨E, hE⟩ : ∃ E : Nat, (E : Int) = y % 62 := ⟨(y % 62).toNat, by omega⟩
  have hE2 : E < 62 := by omega
  have XE := hid hE
  clear hE hy
  have K1 : (0 : Int) < 62 := by omega
  have K2 : (62 : Int) ≤ 1000000000000 := by omega
  have hEu : IntKind.u64.wrap (E : Int) = E := by rw [wrap_u64]; omega
  have hE0 : (0 : Int) ≤ E := by omega
  have HN := fun w => hid (Sl.nil w 1)
  have HX := hid hx
  clear hx
  go_enter Try.func5, Try.ntmps5
  go_wp2_with (first
    | (go_at_call 11; refine (known1_any _).mono ?_; rintro e w1 ⟨rfl, hc1⟩; have C1 := hid hc1; clear hc1)
    | (go_at_call 18; refine (within1_any y 62 _ K1 K2).mono ?_; rintro e w2 ⟨rfl, rfl⟩; rw [← XE.out]))
  obtain ⟨L, hL⟩ : ∃ L : List Int, L = [x, 9223372036854775807, -9223372036854775808, 0, -1, wrap64 (2 ^ E)] := ⟨_, rfl⟩
  have hLl : L.length = 6 := by rw [hL]; rfl
  have hL64 : ∀ z ∈ L, I64 z := by
    rw [hL]
    intro z hz
    simp only [List.mem_cons, List.not_mem_nil, or_false] at hz
    rcases hz with rfl | rfl | rfl | rfl | rfl | rfl
    · exact HX.out
    · unfold I64; omega
    · unfold I64; omega
    · unfold I64; omega
    · unfold I64; omega
    · unfold I64 wrap64; omega
  have hsl := Sl.lit w1 #[Value.int IntKind.i64 x, Value.int IntKind.i64 9223372036854775807, Value.int IntKind.i64 (-9223372036854775808), Value.int IntKind.i64 0, Value.int IntKind.i64 (-1), Value.int IntKind.i64 (wrap64 (2 ^ E))] 3 (by simp [maxLen])
  have hsl2 : Sl (w1.alloc (.cells #[Value.int IntKind.i64 x, Value.int IntKind.i64 9223372036854775807, Value.int IntKind.i64 (-9223372036854775808), Value.int IntKind.i64 0, Value.int IntKind.i64 (-1), Value.int IntKind.i64 (wrap64 (2 ^ E))] 3)) 1 (some ⟨w1.heap.size, 0, none⟩) 6 6 (iv L) := by rw [hL]; exact hsl
  have hc2 : Ch (fun _ => False) w (w1.alloc (.cells #[Value.int IntKind.i64 x, Value.int IntKind.i64 9223372036854775807, Value.int IntKind.i64 (-9223372036854775808), Value.int IntKind.i64 0, Value.int IntKind.i64 (-1), Value.int IntKind.i64 (wrap64 (2 ^ E))] 3)) := C1.out.alloc _
  clear hsl
  generalize w1.alloc (.cells #[Value.int IntKind.i64 x, Value.int IntKind.i64 9223372036854775807, Value.int IntKind.i64 (-9223372036854775808), Value.int IntKind.i64 0, Value.int IntKind.i64 (-1), Value.int IntKind.i64 (wrap64 (2 ^ E))] 3) = W2 at hsl2 hc2 ⊢
  generalize w1.heap.size = G at hsl2 ⊢
  have S2 := hid hsl2
  have C2 := hid hc2
  have LL := hid hLl
  have L64 := hid hL64
  clear hL hsl2 hc2 hLl hL64 C1 HX
  go_loopw [6, 7] (fun vb vi wr => ∃ (i : Nat) (b : Option Addr) (cb : Nat), i ≤ 6 ∧ vi = .int .i64 i ∧ vb = .slice b (9 * i) cb ∧ Sl wr 1 b (9 * i) cb (bv ((L.take i).flatMap enc)) ∧ Ch (fun _ => False) W2 wr) (fun _ vi _ => 6 - (intOf vi).toNat)
  case atStart => exact ⟨0, none, 0, by omega, rfl, rfl, by simpa [bv] using Sl.nil W2 1, Ch.refl _ _⟩
  case round =>
    obtain ⟨i, b, cb, hi, rfl, rfl, hb, hc⟩ := hrel
    have B := hid hb
    have C := hid hc
    clear hb hc
    by_cases hlt : i < 6
    · obtain ⟨z, hz⟩ : ∃ z, L[i]? = some z := ⟨_, List.getElem?_eq_getElem (by rw [LL.out]; exact hlt)⟩
      have hcell := S2.out.at_ (j := i) (by rw [iv_get, hz]; rfl)
      have CELL := hid hcell
      have c0 := C.out.cell hcell id
      have EN := hid (encs_snoc hz)
      have B' := hid (B.out.ch (Ch.refl (fun _ => False) wr).drew (fun _ _ => id))
      have c0' : wr.drew.cell? ⟨G, 0 + i, none⟩ = some (.int .i64 z) := c0
      have q1 : 9 * i ≤ 1000000 := by omega
      have q2 : 9 * i + 8 ≤ 900000 := by omega
      have i1 : (i : Int) < 6 := by omega
      have i2 : (0 : Int) ≤ i := by omega
      simp only [Nat.zero_add] at c0 c0'
      clear hz hcell
      go_wp2
      go_region_with (first
        | (go_at_call 12; refine (int_any _ (9 * i) _ _ z _ B'.out q1).mono ?_; rintro e w3 ⟨a3, c3, rfl, hO, hC⟩; have O3 := hid hO.sl; have C3 := hid (C.out.drew.f hC); have c3' := (C.out.drew.f hC).cell CELL.out id; simp only [Nat.zero_add] at c3'; clear hO hC)
        | (go_at_call 14; refine (byte_any _ (9 * i + 8) _ _ z _ O3.out q2).mono ?_; rintro e w4 ⟨a4, c4, rfl, hO, hC⟩; rw [← EN.out] at hO; have O4 := hid hO.sl; have C4 := hid (C3.out.f hC); have c4' := (C3.out.f hC).cell CELL.out id; simp only [Nat.zero_add] at c4'; clear hO hC))
      all_goals (
        go_wp2
        go_roundw
        case rel => exact ⟨i + 1, a4, c4, by omega, by go_num, by rw [show 9 * i + 8 + 1 = 9 * (i + 1) by omega], by have := O4.out; rw [show 9 * i + 8 + 1 = 9 * (i + 1) by omega] at this; exact this, C4.out⟩
        case measure => simp [intOf]; omega)
    · obtain rfl : i = 6 := by omega
      have hall : (L.take 6).flatMap enc = L.flatMap enc := by rw [List.take_of_length_le (by rw [LL.out]; omega)]
      rw [hall] at B
      clear hall
      have q1 : 54 ≤ 1000000 := by omega
      go_wp2_with (go_at_call 19; refine (new1_any _ (9 * 6) _ _ _ B.out q1).mono ?_; rintro e w5 ⟨p, rfl, hr, hp, hc⟩; have R5 := hid hr; have PP := hid (Nat.le_trans C.out.size hp); have C5 := hid (C.out.f hc); clear hr hc hp)
      clear B C
      go_loopw [9] (fun vi wr => ∃ j : Nat, j ≤ 6 ∧ vi = .int .i64 j ∧ Rd wr p ((L.drop j).flatMap enc) 0 ∧ Ch (fun _ => False) W2 wr) (fun vi _ => 6 - (intOf vi).toNat)
      case atStart => exact ⟨0, by omega, rfl, R5.out, C5.out⟩
      case round =>
        obtain ⟨j, hj, rfl, hr, hc⟩ := hrel
        have R := hid hr
        have C := hid hc
        clear hr hc R5 C5
        by_cases hlt : j < 6
        · obtain ⟨z, hz⟩ : ∃ z, L[j]? = some z := ⟨_, List.getElem?_eq_getElem (by rw [LL.out]; exact hlt)⟩
          have hcell := S2.out.at_ (j := j) (by rw [iv_get, hz]; rfl)
          have CELL := hid hcell
          have c0 := C.out.cell hcell id
          have z64 : I64 z := L64.out z (List.mem_of_getElem? hz)
          have hen := encs_cons hz
          have htk : ((L.drop j).flatMap enc).take 8 = le8 z := by rw [hen, ← le8_length z, List.take_left]
          have hdr : ((L.drop j).flatMap enc).drop 8 = u8of z :: (L.drop (j + 1)).flatMap enc := by rw [hen, ← le8_length z, List.drop_left]
          have hle : 8 ≤ ((L.drop j).flatMap enc).length := by rw [hen, List.length_append, le8_length]; omega
          have TK := hid htk
          have DR := hid hdr
          have LE8 := hid hle
          have BK := hid (le8_back z z64)
          have AND := and255 z z64
          have V := hid (u8of_val z)
          have R' := hid (R.out.f (Ch.refl (fun _ => False) wr).drew)
          have c0' : wr.drew.cell? ⟨G, 0 + j, none⟩ = some (.int .i64 z) := c0
          have i1 : (j : Int) < 6 := by omega
          have i2 : (0 : Int) ≤ j := by omega
          simp only [Nat.zero_add] at c0 c0'
          clear hz hcell hen htk hdr hle
          go_wp2
          go_region_with (first
            | (go_at_call 20; refine (rint_ok p _ _ R'.out LE8.out).mono ?_; rw [TK.out, BK.out, DR.out]; rintro e w3 ⟨rfl, hr, hc⟩; have R3 := hid hr; have C3 := hid (C.out.drew.far1 hc PP.out); have c3' := (C.out.drew.far1 hc PP.out).cell CELL.out id; simp only [Nat.zero_add] at c3'; clear hr hc)
            | (go_at_call 21; refine (rbyte_ok p _ _ _ R3.out).mono ?_; rw [V.out]; rintro e w4 ⟨rfl, hr, hc⟩; have R4 := hid hr; have C4 := hid (C3.out.far1 hc PP.out); have c4' := (C3.out.far1 hc PP.out).cell CELL.out id; simp only [Nat.zero_add] at c4'; clear hr hc))
          all_goals (
            go_wp2
            go_roundw
            case rel => exact ⟨j + 1, by omega, by go_num, R4.out, C4.out⟩
            case measure => simp [intOf]; omega)
        · obtain rfl : j = 6 := by omega
          have hnil : (L.drop 6).flatMap enc = [] := by rw [List.drop_of_length_le (by rw [LL.out]; omega)]; rfl
          rw [hnil] at R
          have E0 := hid (show endOf [] 0 = 0 by rfl)
          clear hnil
          go_wp2_with (go_at_call 22; refine (end_any p [] 0 _ R.out).mono ?_; rw [E0.out]; rintro e w7 ⟨rfl, rfl⟩)
          go_ret
          exact ⟨rfl, C2.out.f C.out⟩
end Go.Proofs.Yteleabfbnlhkkaa

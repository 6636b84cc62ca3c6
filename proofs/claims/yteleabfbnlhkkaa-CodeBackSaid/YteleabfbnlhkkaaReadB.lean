/- code's Reader: number, Int, Byte, Text. -/
import Derived.Test.YteleabfbnlhkkaaRead
import Derived.Laws.BitsAllLaws
namespace Go.Proofs.Yteleabfbnlhkkaa
open Go.RowKit Go.Cx
set_option linter.unusedVariables false
set_option linter.unusedSimpArgs false

/-- Bytes as a number, the least first. -/
def leNum : List UInt8 → Nat
  | [] => 0
  | b :: l => b.toNat + 256 * leNum l
theorem leNum_snoc (l : List UInt8) (b : UInt8) : leNum (l ++ [b]) = leNum l + 2 ^ (8 * l.length) * b.toNat := by
  induction l with
  | nil => simp [leNum]
  | cons a l ih =>
    simp only [List.cons_append, leNum, ih, List.length_cons]
    have e : 2 ^ (8 * (l.length + 1)) = 256 * 2 ^ (8 * l.length) := by rw [Nat.mul_add, Nat.pow_add, Nat.mul_comm]
    rw [e, Nat.mul_add, ← Nat.mul_assoc]
    omega
theorem leNum_lt (l : List UInt8) : leNum l < 2 ^ (8 * l.length) := by
  induction l with
  | nil => simp [leNum]
  | cons a l ih =>
    have := a.toNat_lt
    have e : 2 ^ (8 * (l.length + 1)) = 256 * 2 ^ (8 * l.length) := by rw [Nat.mul_add, Nat.pow_add, Nat.mul_comm]
    simp only [leNum, List.length_cons, e]
    omega

theorem wrap_u64 (n : Int) : IntKind.u64.wrap n = n % 18446744073709551616 := by simp [IntKind.wrap, IntKind.bits, IntKind.signed]
theorem pow_le64 (i : Nat) (hi : i < 8) : 2 ^ (8 * i) * 256 ≤ 18446744073709551616 := by
  have : 2 ^ (8 * i) * 256 = 2 ^ (8 * i + 8) := by rw [Nat.pow_add]
  rw [this]
  exact Nat.pow_le_pow_right (by decide) (show 8 * i + 8 ≤ 64 by omega)
theorem or64 (u c i : Nat) (hu : u < 2 ^ (8 * i)) (hc : c < 256) (hi : i < 8) : bits BinOp.or IntKind.u64 (u : Int) (IntKind.u64.wrap (IntKind.u64.wrap (c : Int) * 2 ^ (8 * i))) = ((u + 2 ^ (8 * i) * c : Nat) : Int) := by
  have hp := pow_le64 i hi
  have h1 : 2 ^ (8 * i) * c < 18446744073709551616 := Nat.lt_of_lt_of_le (Nat.mul_lt_mul_of_pos_left hc (Nat.two_pow_pos _)) hp
  have h2 : u < 18446744073709551616 := by omega
  have e : IntKind.u64.wrap (IntKind.u64.wrap (c : Int) * 2 ^ (8 * i)) = ((2 ^ (8 * i) * c : Nat) : Int) := by
    have e1 : IntKind.u64.wrap (c : Int) = c := by rw [wrap_u64]; omega
    have e2 : (c : Int) * 2 ^ (8 * i) = ((2 ^ (8 * i) * c : Nat) : Int) := by rw [Int.natCast_mul, Int.mul_comm]; simp
    rw [e1, e2, wrap_u64]
    omega
  rw [e, u64_or_nat u _ h2 h1, Nat.or_comm, ← Nat.two_pow_add_eq_or_of_lt hu]
  omega

def NumOk (w : World) (p : Nat) (l : List UInt8) (z : Int) (en : Ending) (w' : World) : Prop :=
  en = .returned (.int .i64 z) ∧ Rd w' p l 0 ∧ Ch (fun k => k = p) w w'
set_option maxRecDepth 100000 in
set_option maxHeartbeats 1000000 in
theorem number_ok (p : Nat) (l : List UInt8) (k : Nat) (w : World) (h : Rd w p l 0) (hk : k ≤ l.length) (hk8 : k ≤ 8) :
    Calls Try.prog 33 #[.pointer (some ⟨p, 0, none⟩), .int .i64 k] w (NumOk w p (l.drop k) (wrap64 (leNum (l.take k) : Nat))) := by
  have H := hid h
  clear h
  have hlk : (l.take k).length = k := by rw [List.length_take]; omega
  have HLK := hid hlk
  clear hlk
  go_enter Try.func33, Try.ntmps33
  go_wp2_with (go_at_call 34; refine (take_ok p l k _ H.out hk).mono ?_; rintro en w1 ⟨a, c, rfl, hs, hr, hc⟩; have S := hid hs; have R := hid hr; have C := hid hc; clear hs hr hc)
  go_loopw [5, 6, 7, 12] (fun vu _ _ vi wr => ∃ i : Nat, i ≤ k ∧ vi = .int .i64 i ∧ vu = .int .u64 (leNum ((l.take k).take i) : Nat) ∧ w1 = wr) (fun _ _ _ vi _ => k - (intOf vi).toNat)
  case atStart => exact ⟨0, by omega, rfl, rfl, rfl⟩
  case round =>
    obtain ⟨i, hi, rfl, rfl, rfl⟩ := hrel
    by_cases hlt : i < k
    · obtain ⟨b, hb⟩ : ∃ b, (l.take k)[i]? = some b := ⟨_, List.getElem?_eq_getElem (by rw [HLK.out]; exact hlt)⟩
      obtain ⟨g, o, rfl⟩ := S.out.spot (by intro e; have := congrArg List.length e; rw [bv_length, HLK.out] at this; simp at this; omega)
      have hcell := S.out.at_ (j := i) (by rw [bv_get, hb]; rfl)
      have e1 : leNum ((l.take k).take (i + 1)) = leNum ((l.take k).take i) + 2 ^ (8 * i) * b.toNat := by
        rw [List.take_add_one, hb]
        simp only [Option.toList]
        rw [leNum_snoc]
        rw [List.length_take, HLK.out, show min i k = i by omega]
      obtain ⟨u, hu⟩ : ∃ u, u = leNum ((l.take k).take i) := ⟨_, rfl⟩
      rw [← hu] at e1 ⊢
      have E1 := hid e1
      have HU := hid hu
      have HB := hid hb
      have hiw : IntKind.i64.wrap (8 * (i : Int)) = 8 * (i : Int) := by rw [IntKind.wrap_i64]; omega
      have hn : decide ((i : Int) < 0) = false := decide_eq_false (by omega)
      have hlt' : (i : Int) < k := by omega
      have hub : u < 2 ^ (8 * i) := by
        have := leNum_lt ((l.take k).take i)
        rw [List.length_take, HLK.out, show min i k = i by omega, ← hu] at this
        exact this
      have OR := or64 u b.toNat i hub b.toNat_lt (by omega)
      rw [← e1] at OR
      clear e1 hu hb hub
      go_wp2
      go_roundw
      case rel => exact ⟨i + 1, by omega, by go_num, by first | rfl | rw [OR], trivial⟩
      case measure => simp [intOf]; omega
    · obtain rfl : i = k := by omega
      have e1 : (l.take i).take i = l.take i := by rw [List.take_take, Nat.min_self]
      rw [e1]
      go_wp2
      go_ret
      exact ⟨rfl, R.out, C.out⟩

def NumBad (w : World) (p : Nat) (l : List UInt8) (e : Int) (en : Ending) (w' : World) : Prop :=
  en = .returned (.int .i64 0) ∧ Rd w' p l (er e 8) ∧ Ch (fun k => k = p) w w'
set_option maxRecDepth 100000 in
set_option maxHeartbeats 1000000 in
theorem number_bad (p : Nat) (l : List UInt8) (e : Int) (k : Nat) (w : World) (h : Rd w p l e) (hb : e ≠ 0 ∨ l.length < k) :
    Calls Try.prog 33 #[.pointer (some ⟨p, 0, none⟩), .int .i64 k] w (NumBad w p l e) := by
  have H := hid h
  have HB := hid hb
  clear h hb
  go_enter Try.func33, Try.ntmps33
  go_wp2_with (go_at_call 34; refine (take_bad p l e k _ H.out HB.out).mono ?_; rintro en w1 ⟨rfl, hr, hc⟩; have R := hid hr; have C := hid hc; clear hr hc)
  go_loopw [5, 6, 7, 12] (fun vu _ _ vi wr => vi = .int .i64 0 ∧ vu = .int .u64 0 ∧ w1 = wr) (fun _ _ _ vi _ => 0)
  case atStart => exact ⟨rfl, rfl, rfl⟩
  case round =>
    obtain ⟨rfl, rfl, rfl⟩ := hrel
    go_wp2
    go_ret
    exact ⟨rfl, R.out, C.out⟩

set_option maxRecDepth 100000 in
set_option maxHeartbeats 1000000 in
theorem rint_ok (p : Nat) (l : List UInt8) (w : World) (h : Rd w p l 0) (hk : 8 ≤ l.length) :
    Calls Try.prog 20 #[.pointer (some ⟨p, 0, none⟩)] w (NumOk w p (l.drop 8) (wrap64 (leNum (l.take 8) : Nat))) := by
  have H := hid h
  clear h
  go_enter Try.func20, Try.ntmps20
  go_wp2_with (go_at_call 33; refine (number_ok p l 8 _ H.out hk (by omega)).mono ?_; rintro en w1 ⟨rfl, hr, hc⟩; have R := hid hr; have C := hid hc; clear hr hc)
  go_ret
  exact ⟨rfl, R.out, C.out⟩
set_option maxRecDepth 100000 in
set_option maxHeartbeats 1000000 in
theorem rint_bad (p : Nat) (l : List UInt8) (e : Int) (w : World) (h : Rd w p l e) (hb : e ≠ 0 ∨ l.length < 8) :
    Calls Try.prog 20 #[.pointer (some ⟨p, 0, none⟩)] w (NumBad w p l e) := by
  have H := hid h
  have HB := hid hb
  clear h hb
  go_enter Try.func20, Try.ntmps20
  go_wp2_with (go_at_call 33; refine (number_bad p l e 8 _ H.out HB.out).mono ?_; rintro en w1 ⟨rfl, hr, hc⟩; have R := hid hr; have C := hid hc; clear hr hc)
  go_ret
  exact ⟨rfl, R.out, C.out⟩
set_option maxRecDepth 100000 in
set_option maxHeartbeats 1000000 in
theorem rbyte_ok (p : Nat) (b : UInt8) (l : List UInt8) (w : World) (h : Rd w p (b :: l) 0) :
    Calls Try.prog 21 #[.pointer (some ⟨p, 0, none⟩)] w (NumOk w p l b.toNat) := by
  have H := hid h
  have hw : wrap64 (leNum ((b :: l).take 1) : Nat) = b.toNat := by have := b.toNat_lt; simp [leNum, wrap64]; omega
  have HW := hid hw
  clear h hw
  go_enter Try.func21, Try.ntmps21
  go_wp2_with (go_at_call 33; refine (number_ok p (b :: l) 1 _ H.out (by simp) (by omega)).mono ?_; rw [HW.out]; rintro en w1 ⟨rfl, hr, hc⟩; have R := hid hr; have C := hid hc; clear hr hc)
  go_ret
  exact ⟨rfl, R.out, C.out⟩
set_option maxRecDepth 100000 in
set_option maxHeartbeats 1000000 in
theorem rbyte_bad (p : Nat) (l : List UInt8) (e : Int) (w : World) (h : Rd w p l e) (hb : e ≠ 0 ∨ l.length < 1) :
    Calls Try.prog 21 #[.pointer (some ⟨p, 0, none⟩)] w (NumBad w p l e) := by
  have H := hid h
  have HB := hid hb
  clear h hb
  go_enter Try.func21, Try.ntmps21
  go_wp2_with (go_at_call 33; refine (number_bad p l e 1 _ H.out HB.out).mono ?_; rintro en w1 ⟨rfl, hr, hc⟩; have R := hid hr; have C := hid hc; clear hr hc)
  go_ret
  exact ⟨rfl, R.out, C.out⟩

/-! ### Text -/
def TextOk (w : World) (p : Nat) (l : List UInt8) (e : Int) (s : List UInt8) (en : Ending) (w' : World) : Prop :=
  en = .returned (.string (str s)) ∧ Rd w' p l e ∧ Ch (fun k => k = p) w w'
set_option maxRecDepth 100000 in
set_option maxHeartbeats 1000000 in
theorem rtext_ok (p : Nat) (l : List UInt8) (w : World) (h : Rd w p l 0) (k : Nat) (h2 : 2 ≤ l.length) (hk : k = leNum (l.take 2)) (hl : k ≤ (l.drop 2).length) :
    Calls Try.prog 23 #[.pointer (some ⟨p, 0, none⟩)] w (TextOk w p ((l.drop 2).drop k) 0 ((l.drop 2).take k)) := by
  have H := hid h
  have hw : wrap64 (leNum (l.take 2) : Nat) = (k : Int) := by
    have h1 := leNum_lt (l.take 2)
    rw [List.length_take, show min 2 l.length = 2 by omega, ← hk] at h1
    rw [← hk]; unfold wrap64; omega
  have HW := hid hw
  have HK := hid hl
  clear h hw hk hl
  go_enter Try.func23, Try.ntmps23
  go_wp2_with (first
    | (go_at_call 33; refine (number_ok p l 2 _ H.out h2 (by omega)).mono ?_; rw [HW.out]; rintro en w1 ⟨rfl, hr, hc⟩; have R := hid hr; have C := hid hc; clear hr hc)
    | (go_at_call 34; refine (take_ok p _ k _ R.out HK.out).mono ?_; rintro en w2 ⟨a, c, rfl, hs, hr, hc⟩; have S := string_of hs w2 rfl; have R2 := hid hr; have C2 := hid hc; clear hs hr hc))
  go_ret
  exact ⟨rfl, R2.out, C.out.trans C2.out (fun _ _ h => h)⟩
theorem string_nil (w : World) : (convert 22 9 (.slice none 0 0)).run Try.prog w = .ok (.string (str [])) w := string_of (l := []) (Sl.nil w 1) w rfl
set_option maxRecDepth 100000 in
set_option maxHeartbeats 1000000 in
theorem rtext_cut (p : Nat) (l : List UInt8) (w : World) (h : Rd w p l 0) (k : Nat) (h2 : 2 ≤ l.length) (hk : k = leNum (l.take 2)) (hl : (l.drop 2).length < k) :
    Calls Try.prog 23 #[.pointer (some ⟨p, 0, none⟩)] w (TextOk w p (l.drop 2) 8 []) := by
  have H := hid h
  have hw : wrap64 (leNum (l.take 2) : Nat) = (k : Int) := by
    have h1 := leNum_lt (l.take 2)
    rw [List.length_take, show min 2 l.length = 2 by omega, ← hk] at h1
    rw [← hk]; unfold wrap64; omega
  have HW := hid hw
  have HK := hid hl
  clear h hw hk hl
  go_enter Try.func23, Try.ntmps23
  go_wp2_with (first
    | (go_at_call 33; refine (number_ok p l 2 _ H.out h2 (by omega)).mono ?_; rw [HW.out]; rintro en w1 ⟨rfl, hr, hc⟩; have R := hid hr; have C := hid hc; clear hr hc)
    | (go_at_call 34; refine (take_bad p _ 0 k _ R.out (.inr HK.out)).mono ?_; rintro en w2 ⟨rfl, hr, hc⟩; have S := string_nil w2; have R2 := hid hr; have C2 := hid hc; clear hr hc))
  go_ret
  exact ⟨rfl, R2.out, C.out.trans C2.out (fun _ _ h => h)⟩
theorem er_er (e : Int) : er (er e 8) 8 = er e 8 := by unfold er; split <;> simp_all
set_option maxRecDepth 100000 in
set_option maxHeartbeats 1000000 in
theorem rtext_bad (p : Nat) (l : List UInt8) (e : Int) (w : World) (h : Rd w p l e) (hb : e ≠ 0 ∨ l.length < 2) :
    Calls Try.prog 23 #[.pointer (some ⟨p, 0, none⟩)] w (TextOk w p l (er e 8) []) := by
  have H := hid h
  have HB := hid hb
  have he8 : er e 8 ≠ 0 := by unfold er; split <;> omega
  have HE := hid he8
  clear h hb he8
  go_enter Try.func23, Try.ntmps23
  go_wp2_with (first
    | (go_at_call 33; refine (number_bad p l e 2 _ H.out HB.out).mono ?_; rintro en w1 ⟨rfl, hr, hc⟩; have R := hid hr; have C := hid hc; clear hr hc)
    | (go_at_call 34; refine (take_bad p _ _ 0 _ R.out (.inl HE.out)).mono ?_; rintro en w2 ⟨rfl, hr, hc⟩; have S := string_nil w2; rw [er_er] at hr; have R2 := hid hr; have C2 := hid hc; clear hr hc))
  go_ret
  exact ⟨rfl, R2.out, C.out.trans C2.out (fun _ _ h => h)⟩
end Go.Proofs.Yteleabfbnlhkkaa

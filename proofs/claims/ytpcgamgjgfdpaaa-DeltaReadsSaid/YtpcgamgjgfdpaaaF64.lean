import Derived.WalkLawsBesides
namespace Go.F64
open Ieee

theorem shl_eq (m k : Nat) : m <<< k = m * 2 ^ k := Nat.shiftLeft_eq m k

/-- A cut by a power of two that divides. -/
theorem cut_exact (way : Toward) (neg : Bool) (k d : Nat) (hk : 0 < k) : way.cut neg (k * 2 ^ d) d = k := by
  have hp : 0 < 2 ^ d := Nat.two_pow_pos d
  have hpos : k * 2 ^ d ≠ 0 := by
    have := Nat.mul_pos hk hp
    omega
  have hl : d ≤ (k * 2 ^ d).log2 := by
    rw [Nat.le_log2 hpos]
    exact Nat.le_mul_of_pos_left _ hk
  have hmin : min d ((k * 2 ^ d).log2 + 2) = d := by omega
  unfold Toward.cut
  simp only [hmin, shl_eq, Nat.one_mul]
  have h1 : k * 2 ^ d / 2 ^ d = k := Nat.mul_div_cancel k hp
  have h2 : k * 2 ^ d % 2 ^ d = 0 := Nat.mul_mod_left k (2 ^ d)
  rw [h1, h2]
  cases way <;> simp

theorem log2_mul_pow (k s : Nat) (hk : 0 < k) : (k * 2 ^ s).log2 = k.log2 + s := by
  have hp : 0 < 2 ^ s := Nat.two_pow_pos s
  have h0 : k * 2 ^ s ≠ 0 := by have := Nat.mul_pos hk hp; omega
  have hk0 : k ≠ 0 := by omega
  apply Nat.le_antisymm
  · have : k.log2 < k.log2 + 1 := by omega
    rw [← Nat.lt_succ_iff, Nat.log2_lt h0]
    have h := (Nat.log2_lt hk0 (k := k.log2 + 1)).1 (by omega)
    calc k * 2 ^ s < 2 ^ (k.log2 + 1) * 2 ^ s := Nat.mul_lt_mul_of_pos_right h hp
      _ = 2 ^ (k.log2 + s).succ := by rw [← Nat.pow_add]; congr 1; omega
  · rw [Nat.le_log2 h0, Nat.pow_add]
    exact Nat.mul_le_mul_right _ ((Nat.le_log2 hk0).1 (Nat.le_refl _))

/-- The rung of a positive whole number. -/
def rungOf (k : Nat) : Nat := (k.log2 + 1022) * 2 ^ 52 + k * 2 ^ (52 - k.log2)

theorem log2_small {k : Nat} (hk : 0 < k) (h : k < 2 ^ 53) : k.log2 ≤ 52 := by
  have := (Nat.log2_lt (by omega : k ≠ 0) (k := 53)).2 h
  omega

theorem mant_bounds {k : Nat} (hk : 0 < k) (h : k < 2 ^ 53) : 2 ^ 52 ≤ k * 2 ^ (52 - k.log2) ∧ k * 2 ^ (52 - k.log2) < 2 ^ 53 := by
  have hl := log2_small hk h
  have h1 := (Nat.le_log2 (by omega : k ≠ 0)).1 (Nat.le_refl k.log2)
  have h2 := (Nat.log2_lt (by omega : k ≠ 0) (k := k.log2 + 1)).1 (by omega)
  constructor
  · calc 2 ^ 52 = 2 ^ k.log2 * 2 ^ (52 - k.log2) := by rw [← Nat.pow_add]; congr 1; omega
      _ ≤ k * 2 ^ (52 - k.log2) := Nat.mul_le_mul_right _ h1
  · calc k * 2 ^ (52 - k.log2) < 2 ^ (k.log2 + 1) * 2 ^ (52 - k.log2) := Nat.mul_lt_mul_of_pos_right h2 (Nat.two_pow_pos _)
      _ = 2 ^ 53 := by rw [← Nat.pow_add]; congr 1; omega

theorem leastPlace_double : Ieee.double.leastPlace = -1074 := by decide +kernel
theorem binade_double : Ieee.double.binade = 2 ^ 52 := rfl
theorem infRung_double : Ieee.double.infRung = 2047 * 2 ^ 52 := by decide +kernel
theorem signWeight_double : Ieee.double.signWeight = 2 ^ 63 := rfl

theorem rung_lt {k : Nat} (hk : 0 < k) (h : k < 2 ^ 53) : 2 ^ 52 ≤ rungOf k ∧ rungOf k < 2047 * 2 ^ 52 := by
  have hl := log2_small hk h
  have hm := mant_bounds hk h
  unfold rungOf
  omega

/-- 'nearest' of a scaled whole number is the word of its rung. -/
theorem nearest_scaled (neg : Bool) (k s : Nat) (hk : 0 < k) (h : k < 2 ^ 53) (_hs : s ≤ 1074) :
    Ieee.double.nearest neg (k * 2 ^ s) (-(s : Int)) = Ieee.double.word neg (rungOf k) := by
  have hl := log2_small hk h
  have hp : 0 < 2 ^ s := Nat.two_pow_pos s
  have h0 : k * 2 ^ s ≠ 0 := by have := Nat.mul_pos hk hp; omega
  have hr := rung_lt hk h
  unfold Format.nearest
  rw [if_neg h0]
  have hlog := log2_mul_pow k s hk
  have hfb : Ieee.double.fractionBits = 52 := rfl
  have hlast : max (-(s : Int) + ((k * 2 ^ s).log2 : Int) - (Ieee.double.fractionBits : Int)) Ieee.double.leastPlace = (k.log2 : Int) - 52 := by
    rw [hlog, leastPlace_double, hfb]; omega
  simp only [hlast]
  simp only [leastPlace_double, binade_double, infRung_double]
  have hkept : Toward.even.cut neg ((k * 2 ^ s) <<< (-(s : Int) - ((k.log2 : Int) - 52)).toNat) ((k.log2 : Int) - 52 - -(s : Int)).toNat = k * 2 ^ (52 - k.log2) := by
    rw [shl_eq]
    by_cases hc : s + k.log2 ≤ 52
    · have e1 : (-(s : Int) - ((k.log2 : Int) - 52)).toNat = 52 - k.log2 - s := by omega
      have e2 : ((k.log2 : Int) - 52 - -(s : Int)).toNat = 0 := by omega
      rw [e1, e2, Nat.mul_assoc, ← Nat.pow_add]
      have e3 : s + (52 - k.log2 - s) = 52 - k.log2 := by omega
      rw [e3]
      have := cut_exact .even neg (k * 2 ^ (52 - k.log2)) 0 (Nat.mul_pos hk (Nat.two_pow_pos _))
      simpa using this
    · have e1 : (-(s : Int) - ((k.log2 : Int) - 52)).toNat = 0 := by omega
      have e2 : ((k.log2 : Int) - 52 - -(s : Int)).toNat = k.log2 + s - 52 := by omega
      rw [e1, e2]
      have e3 : k * 2 ^ s * 2 ^ 0 = k * 2 ^ (52 - k.log2) * 2 ^ (k.log2 + s - 52) := by
        rw [Nat.pow_zero, Nat.mul_one, Nat.mul_assoc, ← Nat.pow_add]
        congr 2; omega
      rw [e3]
      exact cut_exact .even neg _ _ (Nat.mul_pos hk (Nat.two_pow_pos _))
  rw [hkept]
  have e : ((k.log2 : Int) - 52 - -1074).toNat = k.log2 + 1022 := by omega
  rw [e]
  exact congrArg (Ieee.double.word neg) (Nat.min_eq_left (Nat.le_of_lt hr.2))

theorem word_mod (S r : Nat) (neg : Bool) (h : r < S) : (if neg then S + r else r) % S = r := by
  cases neg
  · exact Nat.mod_eq_of_lt h
  · show (S + r) % S = r
    rw [Nat.add_mod_left]; exact Nat.mod_eq_of_lt h

theorem word_neg (S r : Nat) (neg : Bool) (h : r < S) : ((if neg then S + r else r) / S % 2 == 1) = neg := by
  have hS : 0 < S := by omega
  cases neg
  · show (r / S % 2 == 1) = false
    rw [Nat.div_eq_of_lt h]; rfl
  · show ((S + r) / S % 2 == 1) = true
    rw [Nat.add_div_left _ hS, Nat.div_eq_of_lt h]; rfl

theorem read_mid (f : Format) (neg : Bool) (r m : Nat) (p : Int) (h0 : f.infRung < f.signWeight) (h1 : f.binade ≤ r) (h2 : r < f.infRung) (hm : f.binade + r % f.binade = m) (hp : f.leastPlace + ((r / f.binade - 1 : Nat) : Int) = p) :
    f.read (f.word neg r) = .number neg m p := by
  have hlt : r < f.signWeight := by omega
  have e1 := word_mod f.signWeight r neg hlt
  have e2 := word_neg f.signWeight r neg hlt
  unfold Format.read Format.word
  simp only [e1, e2]
  rw [if_neg (by omega), if_pos h2, hm, hp]

theorem div_mid (B a m : Nat) (h1 : B ≤ m) (h2 : m < 2 * B) : (a * B + m) / B = a + 1 ∧ (a * B + m) % B = m - B := by
  have hB : 0 < B := by omega
  have e : a * B + m = (m - B) + B * (a + 1) := by rw [Nat.mul_add, Nat.mul_one, Nat.mul_comm B a]; omega
  rw [e]
  constructor
  · rw [Nat.add_mul_div_left _ _ hB, Nat.div_eq_of_lt (by omega)]; omega
  · rw [Nat.add_mul_mod_self_left]; exact Nat.mod_eq_of_lt (by omega)

theorem read_word (neg : Bool) (k : Nat) (hk : 0 < k) (h : k < 2 ^ 53) :
    Ieee.double.read (Ieee.double.word neg (rungOf k)) = .number neg (k * 2 ^ (52 - k.log2)) ((k.log2 : Int) - 52) := by
  have hr := rung_lt hk h
  have hm := mant_bounds hk h
  have hl := log2_small hk h
  have hd := div_mid (2 ^ 52) (k.log2 + 1022) (k * 2 ^ (52 - k.log2)) hm.1 (by omega)
  refine read_mid _ neg _ _ _ ?_ ?_ ?_ ?_ ?_
  · rw [infRung_double, signWeight_double]; omega
  · rw [binade_double]; exact hr.1
  · rw [infRung_double]; exact hr.2
  · rw [binade_double]; unfold rungOf; rw [hd.2]; omega
  · rw [binade_double, leastPlace_double]; unfold rungOf; rw [hd.1]; omega

/-- The float of a whole number. -/
abbrev fl (n : Int) : Nat := floatOfInt .f64 n

/-- 'Small': what a float holds with a bit to spare. -/
def Small (n : Int) : Prop := -2 ^ 52 < n ∧ n < 2 ^ 52

theorem fl_zero : fl 0 = 0 := by decide +kernel

theorem fl_word {n : Int} (h0 : n ≠ 0) (h : n.natAbs < 2 ^ 53) : fl n = Ieee.double.word (decide (n < 0)) (rungOf n.natAbs) := by
  have := nearest_scaled (decide (n < 0)) n.natAbs 0 (by omega) h (by omega)
  rw [Nat.pow_zero, Nat.mul_one] at this
  exact this

theorem read_fl {n : Int} (h0 : n ≠ 0) (h : n.natAbs < 2 ^ 53) :
    FloatKind.f64.decode (fl n) = .number (decide (n < 0)) (n.natAbs * 2 ^ (52 - n.natAbs.log2)) ((n.natAbs.log2 : Int) - 52) := by
  rw [fl_word h0 h]
  exact read_word _ _ (by omega) h

theorem read_zero : FloatKind.f64.decode (fl 0) = .number false 0 (-1074) := by rw [fl_zero]; decide +kernel

/-- A datum that stands for a whole number. -/
def Reads (d : Datum) (n : Int) : Prop := ∃ (s : Bool) (e : Nat), e ≤ 1074 ∧ d = .number s (n.natAbs * 2 ^ e) (-(e : Int)) ∧ (s = decide (n < 0))

theorem reads_fl {n : Int} (h : n.natAbs < 2 ^ 53) : Reads (FloatKind.f64.decode (fl n)) n := by
  by_cases h0 : n = 0
  · subst h0
    obtain ⟨e, he⟩ : ∃ e : Nat, e = 1074 := ⟨_, rfl⟩
    have hz : (-1074 : Int) = -(e : Int) := by omega
    exact ⟨false, e, by omega, by rw [read_zero, Int.natAbs_zero, Nat.zero_mul, hz], rfl⟩
  · refine ⟨decide (n < 0), 52 - n.natAbs.log2, by omega, ?_, rfl⟩
    rw [read_fl h0 h]
    have := log2_small (by omega : 0 < n.natAbs) h
    congr 1; omega

theorem signed_reads (n : Int) (m up : Nat) : signed (decide (n < 0)) (n.natAbs * m) up = n * ((m * 2 ^ up : Nat) : Int) := by
  unfold signed
  rw [shl_eq, Nat.mul_assoc, Int.natCast_mul]
  by_cases h : n < 0
  · rw [if_pos (by simpa using h)]
    have : ((n.natAbs : Nat) : Int) = -n := by omega
    rw [this, Int.neg_mul, Int.neg_neg]
  · rw [if_neg (by simpa using h)]
    have : ((n.natAbs : Nat) : Int) = n := by omega
    rw [this]

/-- Writing a scaled whole number. -/
theorem write_scaled {n : Int} (s : Bool) (hs : s = decide (n < 0)) (e : Nat) (he : e ≤ 1074) (h : n.natAbs < 2 ^ 53) :
    FloatKind.f64.encode (.number s (n.natAbs * 2 ^ e) (-(e : Int))) = fl n := by
  by_cases h0 : n = 0
  · subst h0; subst hs
    rw [fl_zero, Int.natAbs_zero, Nat.zero_mul]
    unfold FloatKind.encode FloatKind.format
    dsimp only
    unfold Format.write Format.nearest
    dsimp only
    rw [if_pos rfl]
    rfl
  · rw [fl_word h0 h, hs]
    exact nearest_scaled _ _ _ (by omega) h he

theorem sum_reads {x y : Datum} {a b : Int} (hx : Reads x a) (hy : Reads y b) (h : (a + b).natAbs < 2 ^ 53) :
    (x.sum y).map FloatKind.f64.encode = some (fl (a + b)) := by
  obtain ⟨s, e, he, rfl, rfl⟩ := hx
  obtain ⟨t, e', he', rfl, rfl⟩ := hy
  unfold Datum.sum
  dsimp only
  obtain ⟨c, hc, hc1⟩ : ∃ c : Nat, min (-(e : Int)) (-(e' : Int)) = -(c : Int) ∧ c = max e e' := ⟨max e e', by omega, rfl⟩
  rw [hc]
  have e1 : (-(e : Int) - -(c : Int)).toNat = c - e := by omega
  have e2 : (-(e' : Int) - -(c : Int)).toNat = c - e' := by omega
  rw [e1, e2, signed_reads, signed_reads, ← Nat.pow_add, ← Nat.pow_add]
  have e3 : e + (c - e) = c := by omega
  have e4 : e' + (c - e') = c := by omega
  rw [e3, e4, ← Int.add_mul]
  have hp : 0 < 2 ^ c := Nat.two_pow_pos c
  have hmul : ((a + b) * ((2 ^ c : Nat) : Int)).natAbs = (a + b).natAbs * 2 ^ c := by rw [Int.natAbs_mul, Int.natAbs_natCast]
  rw [hmul]
  rw [Option.map_some]
  have hneg : ((a + b) * ((2 ^ c : Nat) : Int) < 0) ↔ (a + b < 0) := by
    constructor
    · intro hh
      by_cases h' : a + b < 0
      · exact h'
      · have := Int.mul_nonneg (by omega : 0 ≤ a + b) (Int.natCast_nonneg (2 ^ c))
        omega
    · intro hh
      exact Int.mul_neg_of_neg_of_pos hh (by exact_mod_cast hp)
  by_cases h0 : a + b = 0
  · rw [h0, Int.zero_mul, if_pos rfl, Int.natAbs_zero, Nat.zero_mul]
    have : (decide (a < 0) && decide (b < 0)) = false := by
      by_cases ha : a < 0
      · have : ¬ b < 0 := by omega
        simp [this]
      · simp [ha]
    rw [this]
    have := write_scaled (n := 0) false rfl c (by omega) (by decide)
    rw [Int.natAbs_zero, Nat.zero_mul] at this
    rw [this]
  · have hne : (a + b) * ((2 ^ c : Nat) : Int) ≠ 0 := Int.mul_ne_zero h0 (by omega)
    rw [if_neg hne, write_scaled _ (by simp only [hneg]) c (by omega) h]

theorem add_fl {a b : Int} (ha : a.natAbs < 2 ^ 52) (hb : b.natAbs < 2 ^ 52) : floatBits .add .f64 (fl a) (fl b) = some (fl (a + b)) :=
  sum_reads (reads_fl (by omega)) (reads_fl (by omega)) (by omega)

theorem order_fl {a b : Int} (ha : a.natAbs < 2 ^ 53) (hb : b.natAbs < 2 ^ 53) : FloatKind.f64.format.order (fl a) (fl b) = some (compare a b) := by
  obtain ⟨s, e, he, hx, rfl⟩ := reads_fl ha
  obtain ⟨t, e', he', hy, rfl⟩ := reads_fl hb
  unfold Format.order
  have hx' : FloatKind.f64.format.read (fl a) = _ := hx
  have hy' : FloatKind.f64.format.read (fl b) = _ := hy
  rw [hx', hy']
  unfold Datum.order
  dsimp only
  obtain ⟨c, hc, hc1⟩ : ∃ c : Nat, min (-(e : Int)) (-(e' : Int)) = -(c : Int) ∧ c = max e e' := ⟨max e e', by omega, rfl⟩
  rw [hc]
  have e1 : (-(e : Int) - -(c : Int)).toNat = c - e := by omega
  have e2 : (-(e' : Int) - -(c : Int)).toNat = c - e' := by omega
  rw [e1, e2, signed_reads, signed_reads, ← Nat.pow_add, ← Nat.pow_add]
  have e3 : e + (c - e) = c := by omega
  have e4 : e' + (c - e') = c := by omega
  rw [e3, e4]
  have hp : (0 : Int) < ((2 ^ c : Nat) : Int) := by exact_mod_cast Nat.two_pow_pos c
  congr 1
  generalize ((2 ^ c : Nat) : Int) = p at hp
  have l1 : (a * p < b * p) ↔ a < b := Int.mul_lt_mul_right hp
  have l2 : (a * p = b * p) ↔ a = b := ⟨fun h => Int.eq_of_mul_eq_mul_right (by omega) h, fun h => by rw [h]⟩
  show compareOfLessAndEq (a * p) (b * p) = compareOfLessAndEq a b
  unfold compareOfLessAndEq
  simp only [l1, l2]

theorem toInt_fl {n : Int} (h : n.natAbs < 2 ^ 53) : floatToIntVal .f64 (fl n) .i64 = some n := by
  unfold floatToIntVal
  have hv : (FloatKind.f64.decode (fl n)).toInt .zero = some n := by
    obtain ⟨s, e, he, hx, rfl⟩ := reads_fl h
    rw [hx]
    unfold Datum.toInt Datum.integral
    dsimp only
    have e1 : (-(e : Int)).toNat = 0 := by omega
    have e2 : (- -(e : Int)).toNat = e := by omega
    rw [e1, e2, shl_eq, Nat.pow_zero, Nat.mul_one]
    by_cases h0 : n = 0
    · subst h0
      rw [Int.natAbs_zero, Nat.zero_mul]
      have : Toward.zero.cut (decide ((0 : Int) < 0)) 0 e = 0 := by
        unfold Toward.cut
        dsimp only
        rw [Nat.zero_div]
        rfl
      rw [this]; rfl
    · rw [cut_exact _ _ _ _ (by omega)]
      have := signed_reads n 1 0
      rw [Nat.mul_one] at this
      rw [this]
      simp
  rw [hv]
  dsimp only
  rw [if_pos]
  have h1 : IntKind.i64.min = -9223372036854775808 := by decide +kernel
  have h2 : IntKind.i64.max = 9223372036854775807 := by decide +kernel
  rw [h1, h2]
  omega

/-! The walk's laws, in the floats of whole numbers. -/
theorem fl_one : fl 1 = 4607182418800017408 := by decide +kernel

section
variable {P : Program} (w : World)
/-- 'fl' within bounds: the walk's premise. -/
def Ok (n : Int) : Prop := n.natAbs < 2 ^ 52
theorem Ok.of {n : Int} (h0 : 0 ≤ n) (h : n ≤ 1000000000000) : Ok n := by unfold Ok; omega
theorem Ok.nat {n : Nat} (h : n ≤ 1000000000000) : Ok (n : Int) := by unfold Ok; omega

theorem run_conv_to (src dst : TypeId) (q : IntKind) (n : Int) (hs : (P.underlying src).isSome = true) (hd : P.underlying dst = some (.float .f64)) :
    (convert src dst (.int q n)).run P w = .ok (.float .f64 (fl n)) w := run_convert_int_float w src dst q .f64 n hs hd
@[go_sem] theorem run_conv_from (src dst : TypeId) (n : Int) (h : Ok n) (hs : (P.underlying src).isSome = true) (hd : P.underlying dst = some (.int .i64)) :
    (convert src dst (.float .f64 (fl n))).run P w = .ok (.int .i64 n) w := run_convert_float_int w src dst .f64 .i64 _ n hs hd (toInt_fl (by unfold Ok at h; omega))
@[go_sem] theorem run_add (t : TypeId) (a b : Int) (ha : Ok a) (hb : Ok b) : (binOp .add t (.float .f64 (fl a)) (.float .f64 (fl b))).run P w = .ok (.float .f64 (fl (a + b))) w :=
  run_float_arith w .add t .f64 _ _ _ (add_fl ha hb)
@[go_sem] theorem run_cadd (t : TypeId) (a b c d : Int) (ha : Ok a) (hb : Ok b) (hc : Ok c) (hd : Ok d) :
    (binOp .add t (.complex .f64 (fl a) (fl b)) (.complex .f64 (fl c) (fl d))).run P w = .ok (.complex .f64 (fl (a + c)) (fl (b + d))) w := by
  refine run_complex_sum w .add (Or.inl rfl) t .f64 _ _ _ _ _ _ ?_
  unfold cSumBits
  rw [add_fl ha hc, add_fl hb hd]; rfl
@[go_sem] theorem run_cadd_im (t : TypeId) (a b d : Int) (ha : Ok a) (hb : Ok b) (hd : Ok d) :
    (binOp .add t (.complex .f64 (fl a) (fl b)) (.complex .f64 0 (fl d))).run P w = .ok (.complex .f64 (fl a) (fl (b + d))) w := by
  have h := run_cadd (P := P) w t a b 0 d ha hb (by unfold Ok; omega) hd
  rw [fl_zero, Int.add_zero] at h; exact h
@[go_sem] theorem run_cadd_re (t : TypeId) (a b c : Int) (ha : Ok a) (hb : Ok b) (hc : Ok c) :
    (binOp .add t (.complex .f64 (fl a) (fl b)) (.complex .f64 (fl c) 0)).run P w = .ok (.complex .f64 (fl (a + c)) (fl b)) w := by
  have h := run_cadd (P := P) w t a b c 0 ha hb hc (by unfold Ok; omega)
  rw [fl_zero, Int.add_zero] at h; exact h
@[go_sem] theorem run_add_one (t : TypeId) (a : Int) (ha : Ok a) : (binOp .add t (.float .f64 (fl a)) (.float .f64 4607182418800017408)).run P w = .ok (.float .f64 (fl (a + 1))) w := by
  have h := run_add (P := P) w t a 1 ha (by unfold Ok; omega)
  rw [fl_one] at h; exact h
end
section
variable (P : Program) (w : World) (a : Addr) (m : Mode)
@[go_sem] theorem run_store_complex (k : FloatKind) (x y : Nat) : (store a (.complex k x y) m).run P w = stored P w a (.complex k x y) m := run_store P w a _ m rfl
@[go_sem] theorem run_store_float (k : FloatKind) (x : Nat) : (store a (.float k x) m).run P w = stored P w a (.float k x) m := run_store P w a _ m rfl
end
theorem order_eq {a b : Int} (ha : Ok a) (hb : Ok b) : (FloatKind.f64.format.order (fl a) (fl b) == some .eq) = decide (a = b) := by
  unfold Ok at ha hb
  rw [order_fl (by omega) (by omega), Bool.eq_iff_iff]
  simp
theorem order_gt {a b : Int} (ha : Ok a) (hb : Ok b) : (FloatKind.f64.format.order (fl a) (fl b) == some .gt) = decide (b < a) := by
  unfold Ok at ha hb
  rw [order_fl (by omega) (by omega), Bool.eq_iff_iff]
  simp [Int.compare_eq_gt]

end Go.F64

/- Records of bytes: plain mathematics; and the program's log alone, on a disk on which nothing goes wrong. -/
import Derived.Test.YtfhbbmaimaabnaaLogL
import Derived.Test.YtfhbbmaimaabnaaArgs
import Derived.Deep.Cut
import Derived.Deep.CutBlock
import Derived.Deep.DeepCutAuto
namespace Go.Proofs.Ytfhbbmaimaabnaa
open Go.RowKit Go.Cx Go.F64
set_option linter.unusedVariables false
set_option linter.unusedSimpArgs false

/-! ### A number, written and read -/
theorem by8_toNat (x : Int) (i : Nat) : (Cd.by8 x i).toNat = (x % 18446744073709551616).toNat / 2 ^ (8 * i) % 256 := by
  have h := Cd.u8of_val (IntKind.u64.wrap x / 2 ^ (8 * i))
  have e : IntKind.u64.wrap x = ((x % 18446744073709551616).toNat : Int) := by
    rw [IntKind.wrap_u64]
    have := Int.emod_nonneg x (by omega : (18446744073709551616 : Int) ≠ 0)
    omega
  unfold Cd.by8
  rw [e] at h ⊢
  generalize (x % 18446744073709551616).toNat = u at h ⊢
  have e2 : ((u : Int) / 2 ^ (8 * i)) % 256 = ((u / 2 ^ (8 * i) % 256 : Nat) : Int) := by
    rw [Int.natCast_emod, Int.natCast_ediv, Int.natCast_pow]; rfl
  rw [e2] at h
  exact Int.ofNat_inj.1 h
theorem leNum_upto (x : Int) (i : Nat) : Cd.leNum (Cd.upto x i) = (x % 18446744073709551616).toNat % 2 ^ (8 * i) := by
  induction i with
  | zero => simp [Cd.upto, Cd.leNum, Nat.mod_one]
  | succ i ih =>
    rw [Cd.upto_succ, Cd.leNum_snoc, ih, Cd.upto_length, by8_toNat, show 8 * (i + 1) = 8 * i + 8 by omega, Nat.pow_add, Nat.mod_mul]
theorem le8_back (x : Int) (h : I64 x) : wrap64 (Cd.leNum (Cd.le8 x) : Nat) = x := by
  unfold Cd.le8
  rw [leNum_upto]
  have : (2 : Nat) ^ (8 * 8) = 18446744073709551616 := by decide
  rw [this]
  obtain ⟨h1, h2⟩ := h
  unfold wrap64
  omega

/-! ### Records -/
def rec1 (r : List UInt8) : List UInt8 := Cd.le8 (r.length : Nat) ++ r
def encL : List (List UInt8) → List UInt8
  | [] => []
  | r :: L => rec1 r ++ encL L
theorem rec1_length (r : List UInt8) : (rec1 r).length = 8 + r.length := by unfold rec1; rw [List.length_append, Cd.le8_length]
theorem encL_append (L M : List (List UInt8)) : encL (L ++ M) = encL L ++ encL M := by
  induction L with
  | nil => rfl
  | cons r L ih => simp only [List.cons_append, encL, ih, List.append_assoc]
theorem encL_one (r : List UInt8) : encL [r] = rec1 r := by simp [encL]
theorem encL_len (L : List (List UInt8)) (k : Nat) (h : ∀ r ∈ L, r.length ≤ k) : (encL L).length ≤ L.length * (k + 8) := by
  induction L with
  | nil => simp [encL]
  | cons r L ih =>
    have h1 := h r (List.mem_cons_self ..)
    have h2 := ih (fun r hr => h r (List.mem_cons_of_mem _ hr))
    rw [encL, List.length_append, rec1_length, List.length_cons, Nat.add_mul]
    omega
theorem num8_rec (r X : List UInt8) (h : r.length ≤ 16384) : num8 (rec1 r ++ X) = (r.length : Nat) := by
  unfold num8
  rw [rec1, List.append_assoc, List.take_left' (Cd.le8_length _)]
  exact le8_back _ ⟨by omega, by omega⟩
theorem recs_cons (r X : List UInt8) (h : r.length ≤ 16384) : recs (rec1 r ++ X) = (r :: (recs X).1, 8 + r.length + (recs X).2) := by
  have e := num8_rec r X h
  have ok : okRec (rec1 r ++ X) := by
    have h1 := rec1_length r
    unfold okRec
    rw [e, List.length_append, h1]
    refine ⟨by omega, by omega, by omega, by omega⟩
  obtain ⟨k, hk, _, _, hr⟩ := recs_step ok
  rw [e] at hk
  have hk' : r.length = k := by omega
  subst hk'
  rw [hr]
  have e1 : (rec1 r ++ X).drop 8 = r ++ X := by rw [rec1, List.append_assoc, List.drop_left' (Cd.le8_length _)]
  have e2 : (rec1 r ++ X).drop (8 + r.length) = X := List.drop_left' (rec1_length r)
  rw [e1, e2, List.take_left' rfl]
theorem recs_enc (L : List (List UInt8)) (T : List UInt8) (h : ∀ r ∈ L, r.length ≤ 16384) (ht : ¬ okRec T) : recs (encL L ++ T) = (L, (encL L).length) := by
  induction L with
  | nil => rw [encL, List.nil_append]; exact recs_no ht
  | cons r L ih =>
    have h2 := ih (fun r hr => h r (List.mem_cons_of_mem _ hr))
    rw [encL, List.append_assoc, recs_cons r _ (h r (List.mem_cons_self ..)), h2, List.length_append, rec1_length]
theorem torn_nil : ¬ okRec [] := fun h => by have := h.1; simp at this
theorem torn (r : List UInt8) (j : Nat) (h : r.length ≤ 16384) (hj : j < 8 + r.length) : ¬ okRec ((rec1 r).take j) := by
  intro ok
  obtain ⟨h1, _, _, h4⟩ := ok
  have hl : ((rec1 r).take j).length = j := by rw [List.length_take, rec1_length]; omega
  rw [hl] at h1 h4
  have e : num8 ((rec1 r).take j) = num8 (rec1 r) := by unfold num8; rw [List.take_take, Nat.min_eq_left h1]
  have e2 := num8_rec r [] h
  rw [List.append_nil] at e2
  rw [e, e2] at h4
  omega
theorem enc_take (L : List (List UInt8)) (h : ∀ r ∈ L, r.length ≤ 16384) (m : Nat) :
    ∃ k T, (encL L).take m = encL (L.take k) ++ T ∧ ¬ okRec T ∧ k ≤ L.length ∧ ∀ j, j ≤ L.length → (encL (L.take j)).length ≤ m → j ≤ k := by
  induction L generalizing m with
  | nil => exact ⟨0, [], by simp [encL], torn_nil, Nat.le_refl _, fun j hj _ => hj⟩
  | cons r L ih =>
    have hr := h r (List.mem_cons_self ..)
    by_cases hm : m < 8 + r.length
    · refine ⟨0, (rec1 r).take m, ?_, torn r m hr hm, Nat.zero_le _, fun j hj hl => ?_⟩
      · rw [encL, List.take_append_of_le_length (by rw [rec1_length]; omega)]; rfl
      · cases j with
        | zero => exact Nat.le_refl _
        | succ j => rw [List.take_succ_cons, encL, List.length_append, rec1_length] at hl; omega
    · obtain ⟨k, T, e, ht, hk, hj⟩ := ih (fun r hr => h r (List.mem_cons_of_mem _ hr)) (m - (8 + r.length))
      refine ⟨k + 1, T, ?_, ht, by simp; omega, fun j hj' hl => ?_⟩
      · rw [encL, List.take_append, rec1_length, List.take_of_length_le (by rw [rec1_length]; omega), e, List.take_succ_cons, encL, List.append_assoc]
      · cases j with
        | zero => exact Nat.zero_le _
        | succ j =>
          rw [List.take_succ_cons, encL, List.length_append, rec1_length] at hl
          have := hj j (by simpa using hj') (by omega)
          omega

/-! ### A disk that holds records -/
def DV (sz : Nat) (B : List UInt8) (s : Nat) : Dk := { cont := B, size := sz, syn := s, left := 0, dead := false }
theorem DV.step (sz s : Nat) (B : List UInt8) : (DV sz B s).step = DV sz B s := by unfold Dk.step DV; simp
theorem DV.log (sz s : Nat) (A : List (List UInt8)) (l : List UInt8) (hl : l.length ≤ 16384) (hf : (encL A).length + (8 + l.length) ≤ sz) : (DV sz (encL A) s).log l = (DV sz (encL (A ++ [l])) s, 0) := by
  have e : (DV sz (encL A) s).put (Cd.le8 (l.length : Nat) ++ l) = DV sz (encL (A ++ [l])) s := by rw [encL_append, encL_one]; rfl
  have e8 := Cd.le8_length (l.length : Nat)
  unfold Dk.log Dk.append
  rw [e, DV.step, if_neg (by omega), if_neg (by simp [DV]), if_neg (by simp only [DV, List.length_append, e8]; omega), if_neg (by simp [DV])]
theorem DV.full (sz s : Nat) (B l : List UInt8) (hl : l.length ≤ 16384) (hf : sz < B.length + (8 + l.length)) (hb : B.length ≤ sz) : (DV sz B s).log l = (DV sz B s, 19) := by
  have e8 := Cd.le8_length (l.length : Nat)
  unfold Dk.log Dk.append
  rw [if_neg (by omega), if_neg (by simp [DV]), if_pos (by simp only [DV, List.length_append, e8]; omega)]
theorem DV.long (sz s : Nat) (B l : List UInt8) (hl : 16384 < l.length) : (DV sz B s).log l = (DV sz B s, 5) := by unfold Dk.log; rw [if_pos hl]
theorem DV.sync (sz s : Nat) (B : List UInt8) : (DV sz B s).sync = (DV sz B B.length, 0) := by
  unfold Dk.sync
  rw [DV.step, if_neg (by simp [DV]), if_neg (by simp [DV])]
  rfl
theorem DV.open_ (sz s : Nat) (A : List (List UInt8)) (T : List UInt8) (h : ∀ r ∈ A, r.length ≤ 16384) (ht : ¬ okRec T) : (DV sz (encL A ++ T) s).open = (DV sz (encL A) (encL A).length, 0) := by
  have e : recs (DV sz (encL A ++ T) s).cont = (A, (encL A).length) := recs_enc A T h ht
  unfold Dk.open Dk.cut
  rw [e, DV.step, if_neg (by simp [DV]), if_neg (by simp [DV]), if_neg (by simp only [DV, List.length_append]; omega), if_neg (by simp [DV])]
  simp [DV]
theorem DV.new (n : Nat) (h : n ≤ 65536) : Dk.new n = DV n (encL []) 0 := by
  unfold Dk.new DV
  simp only [encL]
  congr 1
  omega

/-! ### The program's log on such a disk -/
def LV (w wr : World) (p q la sz : Nat) (A : List (List UInt8)) (s K : Nat) : Prop :=
  DiskAt wr p q (DV sz (encL A) s) ∧ LogAt wr la p A.length K ∧ (la ≠ p ∧ la ≠ q) ∧ Ch (fun _ => False) w wr ∧ w.heap.size ≤ p ∧ w.heap.size ≤ q ∧ w.heap.size ≤ la
theorem LV.f {w wr w' : World} {p q la sz s K : Nat} {A : List (List UInt8)} (h : LV w wr p q la sz A s K) (hc : Ch (fun _ => False) wr w') : LV w w' p q la sz A s K :=
  ⟨h.1.ch hc id id, h.2.1.ch hc id, h.2.2.1, h.2.2.2.1.f hc, h.2.2.2.2⟩
theorem LV.ch {w wr : World} {p q la sz s K : Nat} {A : List (List UInt8)} (h : LV w wr p q la sz A s K) : Ch (fun _ => False) w wr := h.2.2.2.1
/-- Open: what is whole is told, what is torn is cut off. -/
theorem lv_open0 (w wr : World) (p q sz s n : Nat) (A : List (List UInt8)) (T : List UInt8) (hd : DiskAt wr p q (DV sz (encL A ++ T) s)) (ht : ¬ okRec T) (hA : ∀ r ∈ A, r.length ≤ 16384) (hn : A.length = n)
    (hc : Ch (fun _ => False) w wr) (hp : w.heap.size ≤ p) (hq : w.heap.size ≤ q) :
    Calls Try.prog 16 #[.pointer (some ⟨p, 0, none⟩)] wr fun e w' => ∃ la a c, e = .returned (.tuple #[.pointer (some ⟨la, 0, none⟩), .slice a n c, .int .i64 0]) ∧
      LV w w' p q la sz A (encL A).length n ∧ RowsAt w' a n c A ∧ Ch (fun k => k = p ∨ k = q) wr w' := by
  refine (lopen_any p q _ wr hd).mono ?_
  have er : recs (DV sz (encL A ++ T) s).cont = (A, (encL A).length) := recs_enc A T hA ht
  have o := DV.open_ sz s A T hA ht
  rintro e w' ⟨h1, h2, h3⟩
  rw [o] at h1 h3
  rw [er] at h3
  simp only [hn] at h3
  rcases h3 with ⟨h3, _⟩ | ⟨_, la, a, c, rfl, h4, h5, h6⟩
  · exact absurd rfl h3
  · have l1 := hd.lt
    have := hc.size
    refine ⟨la, a, c, rfl, ⟨h1, by rw [hn]; exact h4, ⟨by omega, by omega⟩, hc.far2 h2 hp hq, hp, hq, by omega⟩, h5.rows, h2⟩
theorem lv_open (w wr : World) (p q la sz s K n : Nat) (A : List (List UInt8)) (h : LV w wr p q la sz A s K) (hA : ∀ r ∈ A, r.length ≤ 16384) (hn : A.length = n) :
    Calls Try.prog 16 #[.pointer (some ⟨p, 0, none⟩)] wr fun e w' => ∃ la' a c, e = .returned (.tuple #[.pointer (some ⟨la', 0, none⟩), .slice a n c, .int .i64 0]) ∧
      LV w w' p q la' sz A (encL A).length n ∧ RowsAt w' a n c A ∧ LV w w' p q la sz A (encL A).length K := by
  refine (lv_open0 w wr p q sz s n A [] (by rw [List.append_nil]; exact h.1) torn_nil hA hn h.2.2.2.1 h.2.2.2.2.1 h.2.2.2.2.2.1).mono ?_
  rintro e w' ⟨la', a, c, rfl, h1, h2, h3⟩
  exact ⟨la', a, c, rfl, h1, h2, h1.1, h.2.1.ch h3 (by have := h.2.2.1; omega), h.2.2.1, h1.2.2.2.1, h.2.2.2.2⟩
/-- The first Open, on a disk just made. -/
theorem lv_first (w w1 w2 : World) (p q n : Nat) (hn : n ≤ 65536) (hd : DiskAt w2 p q (Dk.new n)) (h0 : Ch (fun _ => False) w w1) (hp : w1.heap.size ≤ p) (hq : w1.heap.size ≤ q) (hc : Ch (fun _ => False) w1 w2) :
    Calls Try.prog 16 #[.pointer (some ⟨p, 0, none⟩)] w2 fun e w' => ∃ la a c, e = .returned (.tuple #[.pointer (some ⟨la, 0, none⟩), .slice a 0 c, .int .i64 0]) ∧ LV w w' p q la n [] 0 0 := by
  have s := h0.size
  rw [DV.new n hn] at hd
  refine (lv_open0 w w2 p q n 0 0 [] [] (by rw [List.append_nil]; exact hd) torn_nil (fun _ h => by cases h) rfl (h0.f hc) (by omega) (by omega)).mono ?_
  rintro e w' ⟨la, a, c, rfl, h1, _⟩
  exact ⟨la, a, c, rfl, h1⟩
theorem LV.post {w wr w' : World} {p q la sz s s' K K' : Nat} {A A' : List (List UInt8)} {e : Ending} {v : Int} (h : LV w wr p q la sz A s K) (hp : LPost p q la (DV sz (encL A') s', v) A'.length K' wr e w') : e = .returned (.int .i64 v) ∧ LV w w' p q la sz A' s' K' := by
  obtain ⟨rfl, h1, h2, h3⟩ := hp
  obtain ⟨_, _, h4, h5, h6, h7, h8⟩ := h
  exact ⟨rfl, h1, h2, h4, chfar h5 h3 (fun i hi => by omega), h6, h7, h8⟩
theorem lv_append (w wr : World) (p q la sz s K : Nat) (A : List (List UInt8)) (a : Option Addr) (m c : Nat) (l : List UInt8) (h : LV w wr p q la sz A s K) (hs : Sl wr 1 a m c (bv l)) (hl : l.length ≤ 16384) (hf : (encL A).length + (8 + l.length) ≤ sz) (hA : A.length ≤ 1000000) :
    Calls Try.prog 20 #[.pointer (some ⟨la, 0, none⟩), .slice a m c] wr fun e w' => e = .returned (.int .i64 0) ∧ LV w w' p q la sz (A ++ [l]) s K := by
  refine (lappend_any p q la A.length K _ a m c l wr h.1 h.2.1 h.2.2.1 hs hA).mono ?_
  rw [DV.log sz s A l hl hf]
  intro e w' hp
  refine h.post (A' := A ++ [l]) (s' := s) (K' := K) ?_
  rw [List.length_append]
  exact hp
theorem lv_full (w wr : World) (p q la sz s K : Nat) (A : List (List UInt8)) (a : Option Addr) (m c : Nat) (l : List UInt8) (h : LV w wr p q la sz A s K) (hs : Sl wr 1 a m c (bv l)) (hl : l.length ≤ 16384) (hf : sz < (encL A).length + (8 + l.length)) (hb : (encL A).length ≤ sz) (hA : A.length ≤ 1000000) :
    Calls Try.prog 20 #[.pointer (some ⟨la, 0, none⟩), .slice a m c] wr fun e w' => e = .returned (.int .i64 19) ∧ LV w w' p q la sz A s K := by
  refine (lappend_any p q la A.length K _ a m c l wr h.1 h.2.1 h.2.2.1 hs hA).mono ?_
  rw [DV.full sz s _ l hl hf hb]
  exact fun e w' hp => h.post hp
theorem lv_long (w wr : World) (p q la sz s K : Nat) (A : List (List UInt8)) (a : Option Addr) (m c : Nat) (l : List UInt8) (h : LV w wr p q la sz A s K) (hs : Sl wr 1 a m c (bv l)) (hl : 16384 < l.length) (hA : A.length ≤ 1000000) :
    Calls Try.prog 20 #[.pointer (some ⟨la, 0, none⟩), .slice a m c] wr fun e w' => e = .returned (.int .i64 5) ∧ LV w w' p q la sz A s K := by
  refine (lappend_any p q la A.length K _ a m c l wr h.1 h.2.1 h.2.2.1 hs hA).mono ?_
  rw [DV.long sz s _ l hl]
  exact fun e w' hp => h.post hp
theorem lv_sync (w wr : World) (p q la sz s K : Nat) (A : List (List UInt8)) (h : LV w wr p q la sz A s K) :
    Calls Try.prog 23 #[.pointer (some ⟨la, 0, none⟩)] wr fun e w' => e = .returned (.int .i64 0) ∧ LV w w' p q la sz A (encL A).length A.length := by
  refine (lsync_any p q la A.length K _ wr h.1 h.2.1 h.2.2.1).mono ?_
  rw [DV.sync sz s]
  exact fun e w' hp => h.post hp
theorem lv_count (w wr : World) (p q la sz s K n : Nat) (A : List (List UInt8)) (h : LV w wr p q la sz A s K) (hn : A.length = n) :
    Calls Try.prog 21 #[.pointer (some ⟨la, 0, none⟩)] wr fun e w' => e = .returned (.int .i64 n) ∧ w' = wr := by
  subst hn; exact lcount_any la p _ K wr h.2.1
theorem lv_safe (w wr : World) (p q la sz s K : Nat) (A : List (List UInt8)) (h : LV w wr p q la sz A s K) :
    Calls Try.prog 22 #[.pointer (some ⟨la, 0, none⟩)] wr fun e w' => e = .returned (.int .i64 K) ∧ w' = wr := lsafe_any la p _ K wr h.2.1
theorem RowsAt_front {w : World} {a : Option Addr} {n c : Nat} {ll : List (List UInt8)} (h : RowsAt w a n c ll) (k : Nat) (hk : k ≤ n) : RowsAt w a k c (ll.take k) := by
  obtain ⟨h1, vs, h2, h3⟩ := h
  refine ⟨by rw [List.length_take]; omega, vs.take k, ?_, fun i l hl => ?_⟩
  · have := h2.take k hk; simpa using this
  · rw [List.getElem?_take] at hl
    split at hl
    · obtain ⟨a', c', e1, e2⟩ := h3 i l hl
      exact ⟨a', c', by rw [List.getElem?_take, if_pos ‹_›]; exact e1, e2⟩
    · cases hl
theorem take_snoc {L : List (List UInt8)} {i : Nat} {l : List UInt8} (h : L[i]? = some l) : L.take (i + 1) = L.take i ++ [l] := by
  rw [List.take_add_one, h]; rfl
theorem take_all {L : List (List UInt8)} {i k : Nat} (h : ∀ j l, j < i → L[j]? = some l → l.length ≤ k) : ∀ r ∈ L.take i, r.length ≤ k := by
  intro r hr
  obtain ⟨j, hj⟩ := List.mem_iff_getElem?.1 hr
  rw [List.getElem?_take] at hj
  split at hj
  · exact h j r ‹_› hj
  · cases hj
end Go.Proofs.Ytfhbbmaimaabnaa

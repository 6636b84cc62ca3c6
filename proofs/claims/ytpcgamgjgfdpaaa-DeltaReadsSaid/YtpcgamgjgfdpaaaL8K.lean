/- comitialaw8.known. Cut by cut8d.py. -/
import Derived.Test.YtpcgamgjgfdpaaaL8
namespace Go.Proofs.Ytpcgamgjgfdpaaa
namespace Cd
open Go.RowKit Go.Cx
set_option linter.unusedVariables false
set_option linter.unusedSimpArgs false

set_option maxRecDepth 100000 in
set_option maxHeartbeats 400000 in
theorem dwithin_any (a n : Int) (w : World) : Calls Try.prog 27 #[.int .i64 a, .int .i64 n] w fun e w' => e = .returned (.bool (decide (0 ≤ a) && decide (a ≤ n))) ∧ w = w' := by
  by_cases h : 0 ≤ a
  · go_enter Try.func27, Try.ntmps27
    go_wp2
    go_ret
    exact ⟨by simp [h], rfl⟩
  · have h1 : decide (0 ≤ a) = false := decide_eq_false h
    go_enter Try.func27, Try.ntmps27
    go_wp2
    go_ret
    exact ⟨by simp [h], rfl⟩

/-- Is this a user. -/
def uOk (D U : Int) : Bool := (decide (0 ≤ D) && decide (D ≤ 2)) && (decide (0 ≤ U) && decide (U ≤ 7))
def UserPost (w : World) (b : Bool) (e : Ending) (w' : World) : Prop := e = .returned (.bool b) ∧ Ch (fun _ => False) w w'
set_option maxRecDepth 100000 in
set_option maxHeartbeats 400000 in
theorem user_any (D U : Int) (w : World) : Calls Try.prog 26 #[.agg #[.int .i64 D, .int .i64 U]] w (UserPost w (uOk D U)) := by
  cases hD : (decide (0 ≤ D) && decide (D ≤ 2)) with
  | false =>
    have HD := hid hD
    clear hD
    go_enter Try.func26, Try.ntmps26
    go_wp2_with (go_at_call 27; refine (dwithin_any D 2 _).mono ?_; rw [HD.out]; rintro e w1 ⟨rfl, rfl⟩)
    go_ret
    exact ⟨by unfold uOk; rw [HD.out]; rfl, (Ch.refl _ w).alloc _⟩
  | true =>
    have HD := hid hD
    have T := hid True.intro
    clear hD
    go_enter Try.func26, Try.ntmps26
    go_wp2_with (first
      | (go_at_call 27; have T2 := T.out; refine (dwithin_any D 2 _).mono ?_; rw [HD.out]; rintro e w1 ⟨rfl, rfl⟩; clear T T2)
      | (go_at_call 27; refine (dwithin_any U 7 _).mono ?_; rintro e w1 ⟨rfl, rfl⟩))
    go_ret
    exact ⟨by unfold uOk; rw [HD.out]; rfl, (Ch.refl _ w).alloc _⟩

/-- A delta without a hash, as a value. -/
def dl (D U I V K : Int) (o : Value) (A B : Int) : Value :=
  .agg #[.int .i64 D, .int .i64 U, .int .i64 I, .int .i64 V, .int .u8 0, .int .u8 0, .int .u8 0, .int .u8 0, .int .u8 0, .int .u8 0, .int .u8 0, .int .u8 0, .int .u8 0, .int .u8 0, .int .u8 0, .int .u8 0, .int .u8 0, .int .u8 0, .int .u8 0, .int .u8 0, .int .u8 0, .int .u8 0, .int .u8 0, .int .u8 0, .int .u8 0, .int .u8 0, .int .u8 0, .int .u8 0, .int .u8 0, .int .u8 0, .int .u8 0, .int .u8 0, .int .u8 0, .int .u8 0, .int .u8 0, .int .u8 0, .int .i64 K, o, .int .i64 A, .int .i64 B]
/-- Its cells. -/
structure DlAt (w : World) (g : Nat) (D U I V K : Int) (o : Value) (A B : Int) : Prop where
  c0 : w.cell? ⟨g, 0, none⟩ = some (.int .i64 D)
  c1 : w.cell? ⟨g, 1, none⟩ = some (.int .i64 U)
  c2 : w.cell? ⟨g, 2, none⟩ = some (.int .i64 I)
  c3 : w.cell? ⟨g, 3, none⟩ = some (.int .i64 V)
  c36 : w.cell? ⟨g, 36, none⟩ = some (.int .i64 K)
  c37 : w.cell? ⟨g, 37, none⟩ = some o
  c38 : w.cell? ⟨g, 38, none⟩ = some (.int .i64 A)
  c39 : w.cell? ⟨g, 39, none⟩ = some (.int .i64 B)
theorem DlAt.f {w w' : World} {g : Nat} {D U I V K : Int} {o : Value} {A B : Int} (h : DlAt w g D U I V K o A B) (hc : Ch (fun _ => False) w w') : DlAt w' g D U I V K o A B :=
  ⟨hc.cell h.c0 id, hc.cell h.c1 id, hc.cell h.c2 id, hc.cell h.c3 id, hc.cell h.c36 id, hc.cell h.c37 id, hc.cell h.c38 id, hc.cell h.c39 id⟩

def ErrPost (w : World) (r : Int) (e : Ending) (w' : World) : Prop := e = .returned (.int .i64 r) ∧ Ch (fun _ => False) w w'
set_option maxRecDepth 100000 in
set_option maxHeartbeats 1000000 in
theorem check_bad (D U I V K : Int) (a : Option Addr) (n c : Nat) (A B : Int) (w : World) (h : uOk D U = false) :
    Calls Try.prog 11 #[dl D U I V K (.slice a n c) A B] w (ErrPost w 1) := by
  have H := hid h
  clear h
  unfold dl
  go_enter Try.func11, Try.ntmps11
  go_wp2_with (go_at_call 26; refine (user_any D U _).mono ?_; rw [H.out]; rintro e w1 ⟨rfl, hc⟩; have C1 := hid hc; clear hc)
  go_ret
  exact ⟨rfl, ((Ch.refl _ w).alloc _).f C1.out⟩
theorem DlAt.new (D U I V K : Int) (a : Option Addr) (n c : Nat) (A B : Int) (w : World) : DlAt (w.alloc (.cells #[.int .i64 D, .int .i64 U, .int .i64 I, .int .i64 V, .int .u8 0, .int .u8 0, .int .u8 0, .int .u8 0, .int .u8 0, .int .u8 0, .int .u8 0, .int .u8 0, .int .u8 0, .int .u8 0, .int .u8 0, .int .u8 0, .int .u8 0, .int .u8 0, .int .u8 0, .int .u8 0, .int .u8 0, .int .u8 0, .int .u8 0, .int .u8 0, .int .u8 0, .int .u8 0, .int .u8 0, .int .u8 0, .int .u8 0, .int .u8 0, .int .u8 0, .int .u8 0, .int .u8 0, .int .u8 0, .int .u8 0, .int .u8 0, .int .i64 K, .slice a n c, .int .i64 A, .int .i64 B] 30)) w.heap.size D U I V K (.slice a n c) A B :=
  have h := alloc_blk_new (.cells #[.int .i64 D, .int .i64 U, .int .i64 I, .int .i64 V, .int .u8 0, .int .u8 0, .int .u8 0, .int .u8 0, .int .u8 0, .int .u8 0, .int .u8 0, .int .u8 0, .int .u8 0, .int .u8 0, .int .u8 0, .int .u8 0, .int .u8 0, .int .u8 0, .int .u8 0, .int .u8 0, .int .u8 0, .int .u8 0, .int .u8 0, .int .u8 0, .int .u8 0, .int .u8 0, .int .u8 0, .int .u8 0, .int .u8 0, .int .u8 0, .int .u8 0, .int .u8 0, .int .u8 0, .int .u8 0, .int .u8 0, .int .u8 0, .int .i64 K, .slice a n c, .int .i64 A, .int .i64 B] 30) (w := w) rfl
  ⟨cell_blk h 0, cell_blk h 1, cell_blk h 2, cell_blk h 3, cell_blk h 36, cell_blk h 37, cell_blk h 38, cell_blk h 39⟩
set_option maxRecDepth 100000 in
set_option maxHeartbeats 2000000 in
theorem check_kind (D U I V K : Int) (a : Option Addr) (n c : Nat) (A B : Int) (w : World) (h : uOk D U = true) (hI : (decide (0 ≤ I) && decide (I ≤ 1073741824)) = true) (hV : (decide (0 ≤ V) && decide (V ≤ 1048576)) = true) (hK : K ≠ 1 ∧ K ≠ 2 ∧ K ≠ 3) :
    Calls Try.prog 11 #[dl D U I V K (.slice a n c) A B] w (ErrPost w 3) := by
  have k1 : (K == 1) = false := beq_eq_false_iff_ne.2 hK.1
  have k2 : (K == 2) = false := beq_eq_false_iff_ne.2 hK.2.1
  have k3 : (K == 3) = false := beq_eq_false_iff_ne.2 hK.2.2
  clear hK
  have H := hid h
  have HI := hid hI
  have HV := hid hV
  have T := hid True.intro
  have TI := hid True.intro
  clear h hI hV
  unfold dl
  go_enter Try.func11, Try.ntmps11
  go_wp2_with (first
    | (go_at_call 26; have T2 := T.out; refine (user_any D U _).mono ?_; rw [H.out]; rintro e w1 ⟨rfl, hc⟩; have C1 := hid (((Ch.refl (fun _ => False) w).alloc _).f hc); have g := (DlAt.new D U I V _ _ _ _ _ _ w).f hc; obtain ⟨x0, x1, x2, x3, x36, x37, x38, x39⟩ := g; clear hc T T2)
    | (go_at_call 27; have T2 := TI.out; refine (dwithin_any I 1073741824 _).mono ?_; rw [HI.out]; rintro e w2 ⟨rfl, rfl⟩; clear TI T2)
    | (go_at_call 27; refine (dwithin_any V 1048576 _).mono ?_; rw [HV.out]; rintro e w2 ⟨rfl, rfl⟩))
  go_ret
  exact ⟨rfl, C1.out⟩
set_option maxRecDepth 100000 in
set_option maxHeartbeats 400000 in
theorem known8_any (w : World) : Calls Try.prog 9 #[] w (True_ w) := by
  go_enter Try.func9, Try.ntmps9
  go_wp2_with (go_at_call 11; refine (check_kind 0 0 0 0 0 none 0 0 0 0 _ rfl rfl rfl (by decide)).mono ?_; rintro e w1 ⟨rfl, hc⟩; have C1 := hid hc; clear hc)
  go_ret
  exact ⟨rfl, C1.out⟩

set_option maxRecDepth 100000 in
set_option maxHeartbeats 400000 in
theorem within8_any (a n : Int) (w : World) (hn : 0 < n) (hn2 : n ≤ 1000000000000) :
    Calls Try.prog 10 #[.int .i64 a, .int .i64 n] w fun e w' => e = .returned (.int .i64 (a % n)) ∧ w = w' := by
  have h0 : (n == 0) = false := beq_eq_false_iff_ne.2 (by omega)
  have t1 := Int.tmod_lt_of_pos a hn
  have t2 := Int.lt_tmod_of_pos a hn
  have e := Int.tmod_eq_emod (a := a) (b := n)
  by_cases hs : a.tmod n < 0
  · have E : a % n = a.tmod n + n := by
      rw [e] at hs ⊢
      have := Int.emod_nonneg a (by omega : n ≠ 0)
      have := Int.emod_lt_of_pos a hn
      split at hs <;> split <;> simp_all <;> omega
    have HE := hid E
    clear E e
    go_enter Try.func10, Try.ntmps10
    go_wp2
    go_ret
    rw [HE.out]
    exact ⟨rfl, rfl⟩
  · have E : a % n = a.tmod n := by
      rw [e] at hs ⊢
      have := Int.emod_nonneg a (by omega : n ≠ 0)
      have := Int.emod_lt_of_pos a hn
      split at hs <;> split <;> simp_all <;> omega
    have HE := hid E
    clear E e
    go_enter Try.func10, Try.ntmps10
    go_wp2
    go_ret
    rw [HE.out]
    exact ⟨rfl, rfl⟩
end Cd
end Go.Proofs.Ytpcgamgjgfdpaaa

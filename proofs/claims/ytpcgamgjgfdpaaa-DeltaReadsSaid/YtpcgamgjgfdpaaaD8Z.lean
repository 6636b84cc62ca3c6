/- Chapter 8: both Checks, the document's Parse, delta.Same (several texts as one). -/
import Derived.Test.YtpcgamgjgfdpaaaD8J
import Derived.Test.YtpcgamgjgfdpaaaD8X
namespace Go.Proofs.Ytpcgamgjgfdpaaa
namespace Cd
open Go.RowKit Go.Cx Go.OpM Go.Proofs.Ytpcgamgjgfdpaaa.Q Go.Proofs.YtpcgamgjgfdpaaaW.PrintWords Go.Proofs.YtpcgamgjgfdpaaaW.PrintLast Go.Proofs.YtpcgamgjgfdpaaaW.PrintMore
set_option linter.unusedVariables false
set_option linter.unusedSimpArgs false

theorem eq24 (d : Nat) (w : World) (x0 y0 : Int) (x1 y1 : Int) :
    (Op.equalIn (d + 2) 24 (.agg #[.int .i64 x0, .int .i64 x1]) (.agg #[.int .i64 y0, .int .i64 y1])).run Try.prog w = .ok (x0 == y0 && x1 == y1) w := by
  refine eqA_of Try.underlying24 (by kernel_rfl) ?_
  refine eqf_cons (by rfl) (by go_simp; rfl) (by go_simp; rfl) (by go_simp) ?_
  exact eqf_last (by rfl) (by go_simp; rfl) (by go_simp; rfl) (by go_simp)
set_option maxRecDepth 100000 in
set_option maxHeartbeats 2000000 in
theorem dcheck_bad (chk : List O3 → Int) (hop : Chk 28 chk) (D U I V : Int) (H : List UInt8) (K : Int) (L : List O3) (A B : Int) (w : World) (a : Option Addr) (c : Nat) (hH : H.length = 32) (hO : OpsAt w a L.length L) (hc : L.length ≤ c) (hn : L.length ≤ 300) (p1 : uOk D U = false) :
    Calls Try.prog 11 #[.agg (D40 D U I V H K (.slice a L.length c) A B)] w fun e w' => e = .returned (.int .i64 1) ∧ Ch (fun _ => False) w w' := by
  have W0 := hid (DAt.new (w := w) (D := D) (U := U) (I := I) (V := V) (K := K) (o := .slice a L.length c) (A := A) (B := B) hH)
  have C0 := hid ((Ch.refl (fun _ => False) w).alloc (.cells (D40 D U I V H K (.slice a L.length c) A B) 30))
  have HOP := hid hop
  have HO := hid hO
  have x0 := W0.out.c0
  have x1 := W0.out.c1
  have EQ := eq24
  clear hop hO
  have T1 := hid True.intro
  have T2 := hid True.intro
  go_enter Try.func11, Try.ntmps11
  go_wp2_with (first
    | (go_at_call 26; have q_ := T1; refine (user_any D U _).mono ?_; rw [p1]; rintro e w1 ⟨rfl, hc1⟩; have C1 := hid (C0.out.f hc1); have W1 := hid (W0.out.f hc1); have O1 := hid (HO.out.below C1.out); have x2_ := W1.out.c2; have x3_ := W1.out.c3; have x36_ := W1.out.c36; have x37_ := W1.out.c37; have x38_ := W1.out.c38; have x39_ := W1.out.c39; clear hc1 T1 q_)
    | (go_at_call 27; have q_ := T2; refine (dwithin_any I 1073741824 _).mono ?_; rw [p2]; rintro e w2 ⟨rfl, rfl⟩; clear T2 q_)
    | (go_at_call 27; refine (dwithin_any V 1048576 _).mono ?_; rw [p3]; rintro e w2 ⟨rfl, rfl⟩)
    | (go_at_call 28; refine (HOP.out _ a L.length c L O1.out hc hn).mono ?_; rw [pc]; rintro e w3 ⟨rfl, hc3⟩; have C3 := hid (C1.out.f hc3); have W3 := hid (W1.out.f hc3); have y38_ := W3.out.c38; have y39_ := W3.out.c39; clear hc3)
    | (go_at_call 26; refine (user_any A B _).mono ?_; rw [p4]; rintro e w4 ⟨rfl, hc4⟩; have C3 := hid (C1.out.f hc4); clear hc4))
  go_ret
  exact ⟨by first | rfl | simp, C1.out⟩
set_option maxRecDepth 100000 in
set_option maxHeartbeats 2000000 in
theorem dcheck_id (chk : List O3 → Int) (hop : Chk 28 chk) (D U I V : Int) (H : List UInt8) (K : Int) (L : List O3) (A B : Int) (w : World) (a : Option Addr) (c : Nat) (hH : H.length = 32) (hO : OpsAt w a L.length L) (hc : L.length ≤ c) (hn : L.length ≤ 300) (p1 : uOk D U = true) (p2 : (decide (0 ≤ I) && decide (I ≤ 1073741824)) = false) :
    Calls Try.prog 11 #[.agg (D40 D U I V H K (.slice a L.length c) A B)] w fun e w' => e = .returned (.int .i64 1) ∧ Ch (fun _ => False) w w' := by
  have W0 := hid (DAt.new (w := w) (D := D) (U := U) (I := I) (V := V) (K := K) (o := .slice a L.length c) (A := A) (B := B) hH)
  have C0 := hid ((Ch.refl (fun _ => False) w).alloc (.cells (D40 D U I V H K (.slice a L.length c) A B) 30))
  have HOP := hid hop
  have HO := hid hO
  have x0 := W0.out.c0
  have x1 := W0.out.c1
  have EQ := eq24
  clear hop hO
  have T1 := hid True.intro
  have T2 := hid True.intro
  go_enter Try.func11, Try.ntmps11
  go_wp2_with (first
    | (go_at_call 26; have q_ := T1; refine (user_any D U _).mono ?_; rw [p1]; rintro e w1 ⟨rfl, hc1⟩; have C1 := hid (C0.out.f hc1); have W1 := hid (W0.out.f hc1); have O1 := hid (HO.out.below C1.out); have x2_ := W1.out.c2; have x3_ := W1.out.c3; have x36_ := W1.out.c36; have x37_ := W1.out.c37; have x38_ := W1.out.c38; have x39_ := W1.out.c39; clear hc1 T1 q_)
    | (go_at_call 27; have q_ := T2; refine (dwithin_any I 1073741824 _).mono ?_; rw [p2]; rintro e w2 ⟨rfl, rfl⟩; clear T2 q_)
    | (go_at_call 27; refine (dwithin_any V 1048576 _).mono ?_; rw [p3]; rintro e w2 ⟨rfl, rfl⟩)
    | (go_at_call 28; refine (HOP.out _ a L.length c L O1.out hc hn).mono ?_; rw [pc]; rintro e w3 ⟨rfl, hc3⟩; have C3 := hid (C1.out.f hc3); have W3 := hid (W1.out.f hc3); have y38_ := W3.out.c38; have y39_ := W3.out.c39; clear hc3)
    | (go_at_call 26; refine (user_any A B _).mono ?_; rw [p4]; rintro e w4 ⟨rfl, hc4⟩; have C3 := hid (C1.out.f hc4); clear hc4))
  go_ret
  exact ⟨by first | rfl | simp, C1.out⟩
set_option maxRecDepth 100000 in
set_option maxHeartbeats 2000000 in
theorem dcheck_ver (chk : List O3 → Int) (hop : Chk 28 chk) (D U I V : Int) (H : List UInt8) (K : Int) (L : List O3) (A B : Int) (w : World) (a : Option Addr) (c : Nat) (hH : H.length = 32) (hO : OpsAt w a L.length L) (hc : L.length ≤ c) (hn : L.length ≤ 300) (p1 : uOk D U = true) (p2 : (decide (0 ≤ I) && decide (I ≤ 1073741824)) = true) (p3 : (decide (0 ≤ V) && decide (V ≤ 1048576)) = false) :
    Calls Try.prog 11 #[.agg (D40 D U I V H K (.slice a L.length c) A B)] w fun e w' => e = .returned (.int .i64 1) ∧ Ch (fun _ => False) w w' := by
  have W0 := hid (DAt.new (w := w) (D := D) (U := U) (I := I) (V := V) (K := K) (o := .slice a L.length c) (A := A) (B := B) hH)
  have C0 := hid ((Ch.refl (fun _ => False) w).alloc (.cells (D40 D U I V H K (.slice a L.length c) A B) 30))
  have HOP := hid hop
  have HO := hid hO
  have x0 := W0.out.c0
  have x1 := W0.out.c1
  have EQ := eq24
  clear hop hO
  have T1 := hid True.intro
  have T2 := hid True.intro
  go_enter Try.func11, Try.ntmps11
  go_wp2_with (first
    | (go_at_call 26; have q_ := T1; refine (user_any D U _).mono ?_; rw [p1]; rintro e w1 ⟨rfl, hc1⟩; have C1 := hid (C0.out.f hc1); have W1 := hid (W0.out.f hc1); have O1 := hid (HO.out.below C1.out); have x2_ := W1.out.c2; have x3_ := W1.out.c3; have x36_ := W1.out.c36; have x37_ := W1.out.c37; have x38_ := W1.out.c38; have x39_ := W1.out.c39; clear hc1 T1 q_)
    | (go_at_call 27; have q_ := T2; refine (dwithin_any I 1073741824 _).mono ?_; rw [p2]; rintro e w2 ⟨rfl, rfl⟩; clear T2 q_)
    | (go_at_call 27; refine (dwithin_any V 1048576 _).mono ?_; rw [p3]; rintro e w2 ⟨rfl, rfl⟩)
    | (go_at_call 28; refine (HOP.out _ a L.length c L O1.out hc hn).mono ?_; rw [pc]; rintro e w3 ⟨rfl, hc3⟩; have C3 := hid (C1.out.f hc3); have W3 := hid (W1.out.f hc3); have y38_ := W3.out.c38; have y39_ := W3.out.c39; clear hc3)
    | (go_at_call 26; refine (user_any A B _).mono ?_; rw [p4]; rintro e w4 ⟨rfl, hc4⟩; have C3 := hid (C1.out.f hc4); clear hc4))
  go_ret
  exact ⟨by first | rfl | simp, C1.out⟩
set_option maxRecDepth 100000 in
set_option maxHeartbeats 2000000 in
theorem dcheck_op (chk : List O3 → Int) (hop : Chk 28 chk) (D U I V : Int) (H : List UInt8) (K : Int) (L : List O3) (A B : Int) (w : World) (a : Option Addr) (c : Nat) (hH : H.length = 32) (hO : OpsAt w a L.length L) (hc : L.length ≤ c) (hn : L.length ≤ 300) (p1 : uOk D U = true) (p2 : (decide (0 ≤ I) && decide (I ≤ 1073741824)) = true) (p3 : (decide (0 ≤ V) && decide (V ≤ 1048576)) = true) (hK : K = 1) (z : Int) (pc : chk L = z) (hz : z ≠ 0) :
    Calls Try.prog 11 #[.agg (D40 D U I V H K (.slice a L.length c) A B)] w fun e w' => e = .returned (.int .i64 z) ∧ Ch (fun _ => False) w w' := by
  have W0 := hid (DAt.new (w := w) (D := D) (U := U) (I := I) (V := V) (K := K) (o := .slice a L.length c) (A := A) (B := B) hH)
  have C0 := hid ((Ch.refl (fun _ => False) w).alloc (.cells (D40 D U I V H K (.slice a L.length c) A B) 30))
  have HOP := hid hop
  have HO := hid hO
  have x0 := W0.out.c0
  have x1 := W0.out.c1
  have EQ := eq24
  clear hop hO
  have T1 := hid True.intro
  have T2 := hid True.intro
  subst hK
  have z1 : (z == 0) = false := beq_eq_false_iff_ne.2 hz
  go_enter Try.func11, Try.ntmps11
  go_wp2_with (first
    | (go_at_call 26; have q_ := T1; refine (user_any D U _).mono ?_; rw [p1]; rintro e w1 ⟨rfl, hc1⟩; have C1 := hid (C0.out.f hc1); have W1 := hid (W0.out.f hc1); have O1 := hid (HO.out.below C1.out); have x2_ := W1.out.c2; have x3_ := W1.out.c3; have x36_ := W1.out.c36; have x37_ := W1.out.c37; have x38_ := W1.out.c38; have x39_ := W1.out.c39; clear hc1 T1 q_)
    | (go_at_call 27; have q_ := T2; refine (dwithin_any I 1073741824 _).mono ?_; rw [p2]; rintro e w2 ⟨rfl, rfl⟩; clear T2 q_)
    | (go_at_call 27; refine (dwithin_any V 1048576 _).mono ?_; rw [p3]; rintro e w2 ⟨rfl, rfl⟩)
    | (go_at_call 28; refine (HOP.out _ a L.length c L O1.out hc hn).mono ?_; rw [pc]; rintro e w3 ⟨rfl, hc3⟩; have C3 := hid (C1.out.f hc3); have W3 := hid (W1.out.f hc3); have y38_ := W3.out.c38; have y39_ := W3.out.c39; clear hc3)
    | (go_at_call 26; refine (user_any A B _).mono ?_; rw [p4]; rintro e w4 ⟨rfl, hc4⟩; have C3 := hid (C1.out.f hc4); clear hc4))
  go_ret
  exact ⟨by first | rfl | simp, C3.out⟩
set_option maxRecDepth 100000 in
set_option maxHeartbeats 2000000 in
theorem dcheck_own (chk : List O3 → Int) (hop : Chk 28 chk) (D U I V : Int) (H : List UInt8) (K : Int) (L : List O3) (A B : Int) (w : World) (a : Option Addr) (c : Nat) (hH : H.length = 32) (hO : OpsAt w a L.length L) (hc : L.length ≤ c) (hn : L.length ≤ 300) (p1 : uOk D U = true) (p2 : (decide (0 ≤ I) && decide (I ≤ 1073741824)) = true) (p3 : (decide (0 ≤ V) && decide (V ≤ 1048576)) = true) (hK : K = 1) (pc : chk L = 0) (hA : A = 0 ∧ B = 0) :
    Calls Try.prog 11 #[.agg (D40 D U I V H K (.slice a L.length c) A B)] w fun e w' => e = .returned (.int .i64 0) ∧ Ch (fun _ => False) w w' := by
  have W0 := hid (DAt.new (w := w) (D := D) (U := U) (I := I) (V := V) (K := K) (o := .slice a L.length c) (A := A) (B := B) hH)
  have C0 := hid ((Ch.refl (fun _ => False) w).alloc (.cells (D40 D U I V H K (.slice a L.length c) A B) 30))
  have HOP := hid hop
  have HO := hid hO
  have x0 := W0.out.c0
  have x1 := W0.out.c1
  have EQ := eq24
  clear hop hO
  have T1 := hid True.intro
  have T2 := hid True.intro
  subst hK
  obtain ⟨rfl, rfl⟩ := hA
  go_enter Try.func11, Try.ntmps11
  go_wp2_with (first
    | (go_at_call 26; have q_ := T1; refine (user_any D U _).mono ?_; rw [p1]; rintro e w1 ⟨rfl, hc1⟩; have C1 := hid (C0.out.f hc1); have W1 := hid (W0.out.f hc1); have O1 := hid (HO.out.below C1.out); have x2_ := W1.out.c2; have x3_ := W1.out.c3; have x36_ := W1.out.c36; have x37_ := W1.out.c37; have x38_ := W1.out.c38; have x39_ := W1.out.c39; clear hc1 T1 q_)
    | (go_at_call 27; have q_ := T2; refine (dwithin_any I 1073741824 _).mono ?_; rw [p2]; rintro e w2 ⟨rfl, rfl⟩; clear T2 q_)
    | (go_at_call 27; refine (dwithin_any V 1048576 _).mono ?_; rw [p3]; rintro e w2 ⟨rfl, rfl⟩)
    | (go_at_call 28; refine (HOP.out _ a L.length c L O1.out hc hn).mono ?_; rw [pc]; rintro e w3 ⟨rfl, hc3⟩; have C3 := hid (C1.out.f hc3); have W3 := hid (W1.out.f hc3); have y38_ := W3.out.c38; have y39_ := W3.out.c39; clear hc3)
    | (go_at_call 26; refine (user_any A B _).mono ?_; rw [p4]; rintro e w4 ⟨rfl, hc4⟩; have C3 := hid (C1.out.f hc4); clear hc4))
  go_ret
  exact ⟨by first | rfl | simp, C3.out⟩
set_option maxRecDepth 100000 in
set_option maxHeartbeats 2000000 in
theorem dcheck_who (chk : List O3 → Int) (hop : Chk 28 chk) (D U I V : Int) (H : List UInt8) (K : Int) (L : List O3) (A B : Int) (w : World) (a : Option Addr) (c : Nat) (hH : H.length = 32) (hO : OpsAt w a L.length L) (hc : L.length ≤ c) (hn : L.length ≤ 300) (p1 : uOk D U = true) (p2 : (decide (0 ≤ I) && decide (I ≤ 1073741824)) = true) (p3 : (decide (0 ≤ V) && decide (V ≤ 1048576)) = true) (hK : K = 1) (pc : chk L = 0) (hA : ¬ (A = 0 ∧ B = 0)) :
    Calls Try.prog 11 #[.agg (D40 D U I V H K (.slice a L.length c) A B)] w fun e w' => e = .returned (.int .i64 1) ∧ Ch (fun _ => False) w w' := by
  have W0 := hid (DAt.new (w := w) (D := D) (U := U) (I := I) (V := V) (K := K) (o := .slice a L.length c) (A := A) (B := B) hH)
  have C0 := hid ((Ch.refl (fun _ => False) w).alloc (.cells (D40 D U I V H K (.slice a L.length c) A B) 30))
  have HOP := hid hop
  have HO := hid hO
  have x0 := W0.out.c0
  have x1 := W0.out.c1
  have EQ := eq24
  clear hop hO
  have T1 := hid True.intro
  have T2 := hid True.intro
  subst hK
  have z1 : (A == 0 && B == 0) = false := by rw [Bool.and_eq_false_iff, beq_eq_false_iff_ne, beq_eq_false_iff_ne]; omega
  go_enter Try.func11, Try.ntmps11
  go_wp2_with (first
    | (go_at_call 26; have q_ := T1; refine (user_any D U _).mono ?_; rw [p1]; rintro e w1 ⟨rfl, hc1⟩; have C1 := hid (C0.out.f hc1); have W1 := hid (W0.out.f hc1); have O1 := hid (HO.out.below C1.out); have x2_ := W1.out.c2; have x3_ := W1.out.c3; have x36_ := W1.out.c36; have x37_ := W1.out.c37; have x38_ := W1.out.c38; have x39_ := W1.out.c39; clear hc1 T1 q_)
    | (go_at_call 27; have q_ := T2; refine (dwithin_any I 1073741824 _).mono ?_; rw [p2]; rintro e w2 ⟨rfl, rfl⟩; clear T2 q_)
    | (go_at_call 27; refine (dwithin_any V 1048576 _).mono ?_; rw [p3]; rintro e w2 ⟨rfl, rfl⟩)
    | (go_at_call 28; refine (HOP.out _ a L.length c L O1.out hc hn).mono ?_; rw [pc]; rintro e w3 ⟨rfl, hc3⟩; have C3 := hid (C1.out.f hc3); have W3 := hid (W1.out.f hc3); have y38_ := W3.out.c38; have y39_ := W3.out.c39; clear hc3)
    | (go_at_call 26; refine (user_any A B _).mono ?_; rw [p4]; rintro e w4 ⟨rfl, hc4⟩; have C3 := hid (C1.out.f hc4); clear hc4))
  go_ret
  exact ⟨by first | rfl | simp, C3.out⟩
set_option maxRecDepth 100000 in
set_option maxHeartbeats 2000000 in
theorem dcheck_kind (chk : List O3 → Int) (hop : Chk 28 chk) (D U I V : Int) (H : List UInt8) (K : Int) (L : List O3) (A B : Int) (w : World) (a : Option Addr) (c : Nat) (hH : H.length = 32) (hO : OpsAt w a L.length L) (hc : L.length ≤ c) (hn : L.length ≤ 300) (p1 : uOk D U = true) (p2 : (decide (0 ≤ I) && decide (I ≤ 1073741824)) = true) (p3 : (decide (0 ≤ V) && decide (V ≤ 1048576)) = true) (h1 : K ≠ 1) (h2 : K ≠ 2) (h3 : K ≠ 3) :
    Calls Try.prog 11 #[.agg (D40 D U I V H K (.slice a L.length c) A B)] w fun e w' => e = .returned (.int .i64 3) ∧ Ch (fun _ => False) w w' := by
  have W0 := hid (DAt.new (w := w) (D := D) (U := U) (I := I) (V := V) (K := K) (o := .slice a L.length c) (A := A) (B := B) hH)
  have C0 := hid ((Ch.refl (fun _ => False) w).alloc (.cells (D40 D U I V H K (.slice a L.length c) A B) 30))
  have HOP := hid hop
  have HO := hid hO
  have x0 := W0.out.c0
  have x1 := W0.out.c1
  have EQ := eq24
  clear hop hO
  have T1 := hid True.intro
  have T2 := hid True.intro
  have k1 : (K == 1) = false := beq_eq_false_iff_ne.2 (by omega)
  have k2 : (K == 2) = false := beq_eq_false_iff_ne.2 (by omega)
  have k3 : (K == 3) = false := beq_eq_false_iff_ne.2 (by omega)
  go_enter Try.func11, Try.ntmps11
  go_wp2_with (first
    | (go_at_call 26; have q_ := T1; refine (user_any D U _).mono ?_; rw [p1]; rintro e w1 ⟨rfl, hc1⟩; have C1 := hid (C0.out.f hc1); have W1 := hid (W0.out.f hc1); have O1 := hid (HO.out.below C1.out); have x2_ := W1.out.c2; have x3_ := W1.out.c3; have x36_ := W1.out.c36; have x37_ := W1.out.c37; have x38_ := W1.out.c38; have x39_ := W1.out.c39; clear hc1 T1 q_)
    | (go_at_call 27; have q_ := T2; refine (dwithin_any I 1073741824 _).mono ?_; rw [p2]; rintro e w2 ⟨rfl, rfl⟩; clear T2 q_)
    | (go_at_call 27; refine (dwithin_any V 1048576 _).mono ?_; rw [p3]; rintro e w2 ⟨rfl, rfl⟩)
    | (go_at_call 28; refine (HOP.out _ a L.length c L O1.out hc hn).mono ?_; rw [pc]; rintro e w3 ⟨rfl, hc3⟩; have C3 := hid (C1.out.f hc3); have W3 := hid (W1.out.f hc3); have y38_ := W3.out.c38; have y39_ := W3.out.c39; clear hc3)
    | (go_at_call 26; refine (user_any A B _).mono ?_; rw [p4]; rintro e w4 ⟨rfl, hc4⟩; have C3 := hid (C1.out.f hc4); clear hc4))
  go_ret
  exact ⟨by first | rfl | simp, C1.out⟩
set_option maxRecDepth 100000 in
set_option maxHeartbeats 2000000 in
theorem dcheck_full2 (chk : List O3 → Int) (hop : Chk 28 chk) (D U I V : Int) (H : List UInt8) (K : Int) (L : List O3) (A B : Int) (w : World) (a : Option Addr) (c : Nat) (hH : H.length = 32) (hO : OpsAt w a L.length L) (hc : L.length ≤ c) (hn : L.length ≤ 300) (p1 : uOk D U = true) (p2 : (decide (0 ≤ I) && decide (I ≤ 1073741824)) = true) (p3 : (decide (0 ≤ V) && decide (V ≤ 1048576)) = true) (hK : K = 2) (hl : 0 < L.length) :
    Calls Try.prog 11 #[.agg (D40 D U I V H K (.slice a L.length c) A B)] w fun e w' => e = .returned (.int .i64 1) ∧ Ch (fun _ => False) w w' := by
  have W0 := hid (DAt.new (w := w) (D := D) (U := U) (I := I) (V := V) (K := K) (o := .slice a L.length c) (A := A) (B := B) hH)
  have C0 := hid ((Ch.refl (fun _ => False) w).alloc (.cells (D40 D U I V H K (.slice a L.length c) A B) 30))
  have HOP := hid hop
  have HO := hid hO
  have x0 := W0.out.c0
  have x1 := W0.out.c1
  have EQ := eq24
  clear hop hO
  have T1 := hid True.intro
  have T2 := hid True.intro
  subst hK
  have l0 : (0 : Int) < L.length := by omega
  go_enter Try.func11, Try.ntmps11
  go_wp2_with (first
    | (go_at_call 26; have q_ := T1; refine (user_any D U _).mono ?_; rw [p1]; rintro e w1 ⟨rfl, hc1⟩; have C1 := hid (C0.out.f hc1); have W1 := hid (W0.out.f hc1); have O1 := hid (HO.out.below C1.out); have x2_ := W1.out.c2; have x3_ := W1.out.c3; have x36_ := W1.out.c36; have x37_ := W1.out.c37; have x38_ := W1.out.c38; have x39_ := W1.out.c39; clear hc1 T1 q_)
    | (go_at_call 27; have q_ := T2; refine (dwithin_any I 1073741824 _).mono ?_; rw [p2]; rintro e w2 ⟨rfl, rfl⟩; clear T2 q_)
    | (go_at_call 27; refine (dwithin_any V 1048576 _).mono ?_; rw [p3]; rintro e w2 ⟨rfl, rfl⟩)
    | (go_at_call 28; refine (HOP.out _ a L.length c L O1.out hc hn).mono ?_; rw [pc]; rintro e w3 ⟨rfl, hc3⟩; have C3 := hid (C1.out.f hc3); have W3 := hid (W1.out.f hc3); have y38_ := W3.out.c38; have y39_ := W3.out.c39; clear hc3)
    | (go_at_call 26; refine (user_any A B _).mono ?_; rw [p4]; rintro e w4 ⟨rfl, hc4⟩; have C3 := hid (C1.out.f hc4); clear hc4))
  go_ret
  exact ⟨by first | rfl | simp, C1.out⟩
set_option maxRecDepth 100000 in
set_option maxHeartbeats 2000000 in
theorem dcheck_add2true (chk : List O3 → Int) (hop : Chk 28 chk) (D U I V : Int) (H : List UInt8) (K : Int) (L : List O3) (A B : Int) (w : World) (a : Option Addr) (c : Nat) (hH : H.length = 32) (hO : OpsAt w a L.length L) (hc : L.length ≤ c) (hn : L.length ≤ 300) (p1 : uOk D U = true) (p2 : (decide (0 ≤ I) && decide (I ≤ 1073741824)) = true) (p3 : (decide (0 ≤ V) && decide (V ≤ 1048576)) = true) (hK : K = 2) (hl : L.length = 0) (p4 : uOk A B = true) :
    Calls Try.prog 11 #[.agg (D40 D U I V H K (.slice a L.length c) A B)] w fun e w' => e = .returned (.int .i64 0) ∧ Ch (fun _ => False) w w' := by
  have W0 := hid (DAt.new (w := w) (D := D) (U := U) (I := I) (V := V) (K := K) (o := .slice a L.length c) (A := A) (B := B) hH)
  have C0 := hid ((Ch.refl (fun _ => False) w).alloc (.cells (D40 D U I V H K (.slice a L.length c) A B) 30))
  have HOP := hid hop
  have HO := hid hO
  have x0 := W0.out.c0
  have x1 := W0.out.c1
  have EQ := eq24
  clear hop hO
  have T1 := hid True.intro
  have T2 := hid True.intro
  subst hK
  rw [hl] at *
  go_enter Try.func11, Try.ntmps11
  go_wp2_with (first
    | (go_at_call 26; have q_ := T1; refine (user_any D U _).mono ?_; rw [p1]; rintro e w1 ⟨rfl, hc1⟩; have C1 := hid (C0.out.f hc1); have W1 := hid (W0.out.f hc1); have O1 := hid (HO.out.below C1.out); have x2_ := W1.out.c2; have x3_ := W1.out.c3; have x36_ := W1.out.c36; have x37_ := W1.out.c37; have x38_ := W1.out.c38; have x39_ := W1.out.c39; clear hc1 T1 q_)
    | (go_at_call 27; have q_ := T2; refine (dwithin_any I 1073741824 _).mono ?_; rw [p2]; rintro e w2 ⟨rfl, rfl⟩; clear T2 q_)
    | (go_at_call 27; refine (dwithin_any V 1048576 _).mono ?_; rw [p3]; rintro e w2 ⟨rfl, rfl⟩)
    | (go_at_call 28; refine (HOP.out _ a L.length c L O1.out hc hn).mono ?_; rw [pc]; rintro e w3 ⟨rfl, hc3⟩; have C3 := hid (C1.out.f hc3); have W3 := hid (W1.out.f hc3); have y38_ := W3.out.c38; have y39_ := W3.out.c39; clear hc3)
    | (go_at_call 26; refine (user_any A B _).mono ?_; rw [p4]; rintro e w4 ⟨rfl, hc4⟩; have C3 := hid (C1.out.f hc4); clear hc4))
  go_ret
  exact ⟨by first | rfl | simp, C3.out⟩
set_option maxRecDepth 100000 in
set_option maxHeartbeats 2000000 in
theorem dcheck_add2false (chk : List O3 → Int) (hop : Chk 28 chk) (D U I V : Int) (H : List UInt8) (K : Int) (L : List O3) (A B : Int) (w : World) (a : Option Addr) (c : Nat) (hH : H.length = 32) (hO : OpsAt w a L.length L) (hc : L.length ≤ c) (hn : L.length ≤ 300) (p1 : uOk D U = true) (p2 : (decide (0 ≤ I) && decide (I ≤ 1073741824)) = true) (p3 : (decide (0 ≤ V) && decide (V ≤ 1048576)) = true) (hK : K = 2) (hl : L.length = 0) (p4 : uOk A B = false) :
    Calls Try.prog 11 #[.agg (D40 D U I V H K (.slice a L.length c) A B)] w fun e w' => e = .returned (.int .i64 1) ∧ Ch (fun _ => False) w w' := by
  have W0 := hid (DAt.new (w := w) (D := D) (U := U) (I := I) (V := V) (K := K) (o := .slice a L.length c) (A := A) (B := B) hH)
  have C0 := hid ((Ch.refl (fun _ => False) w).alloc (.cells (D40 D U I V H K (.slice a L.length c) A B) 30))
  have HOP := hid hop
  have HO := hid hO
  have x0 := W0.out.c0
  have x1 := W0.out.c1
  have EQ := eq24
  clear hop hO
  have T1 := hid True.intro
  have T2 := hid True.intro
  subst hK
  rw [hl] at *
  go_enter Try.func11, Try.ntmps11
  go_wp2_with (first
    | (go_at_call 26; have q_ := T1; refine (user_any D U _).mono ?_; rw [p1]; rintro e w1 ⟨rfl, hc1⟩; have C1 := hid (C0.out.f hc1); have W1 := hid (W0.out.f hc1); have O1 := hid (HO.out.below C1.out); have x2_ := W1.out.c2; have x3_ := W1.out.c3; have x36_ := W1.out.c36; have x37_ := W1.out.c37; have x38_ := W1.out.c38; have x39_ := W1.out.c39; clear hc1 T1 q_)
    | (go_at_call 27; have q_ := T2; refine (dwithin_any I 1073741824 _).mono ?_; rw [p2]; rintro e w2 ⟨rfl, rfl⟩; clear T2 q_)
    | (go_at_call 27; refine (dwithin_any V 1048576 _).mono ?_; rw [p3]; rintro e w2 ⟨rfl, rfl⟩)
    | (go_at_call 28; refine (HOP.out _ a L.length c L O1.out hc hn).mono ?_; rw [pc]; rintro e w3 ⟨rfl, hc3⟩; have C3 := hid (C1.out.f hc3); have W3 := hid (W1.out.f hc3); have y38_ := W3.out.c38; have y39_ := W3.out.c39; clear hc3)
    | (go_at_call 26; refine (user_any A B _).mono ?_; rw [p4]; rintro e w4 ⟨rfl, hc4⟩; have C3 := hid (C1.out.f hc4); clear hc4))
  go_ret
  exact ⟨by first | rfl | simp, C3.out⟩
set_option maxRecDepth 100000 in
set_option maxHeartbeats 2000000 in
theorem dcheck_full3 (chk : List O3 → Int) (hop : Chk 28 chk) (D U I V : Int) (H : List UInt8) (K : Int) (L : List O3) (A B : Int) (w : World) (a : Option Addr) (c : Nat) (hH : H.length = 32) (hO : OpsAt w a L.length L) (hc : L.length ≤ c) (hn : L.length ≤ 300) (p1 : uOk D U = true) (p2 : (decide (0 ≤ I) && decide (I ≤ 1073741824)) = true) (p3 : (decide (0 ≤ V) && decide (V ≤ 1048576)) = true) (hK : K = 3) (hl : 0 < L.length) :
    Calls Try.prog 11 #[.agg (D40 D U I V H K (.slice a L.length c) A B)] w fun e w' => e = .returned (.int .i64 1) ∧ Ch (fun _ => False) w w' := by
  have W0 := hid (DAt.new (w := w) (D := D) (U := U) (I := I) (V := V) (K := K) (o := .slice a L.length c) (A := A) (B := B) hH)
  have C0 := hid ((Ch.refl (fun _ => False) w).alloc (.cells (D40 D U I V H K (.slice a L.length c) A B) 30))
  have HOP := hid hop
  have HO := hid hO
  have x0 := W0.out.c0
  have x1 := W0.out.c1
  have EQ := eq24
  clear hop hO
  have T1 := hid True.intro
  have T2 := hid True.intro
  subst hK
  have l0 : (0 : Int) < L.length := by omega
  go_enter Try.func11, Try.ntmps11
  go_wp2_with (first
    | (go_at_call 26; have q_ := T1; refine (user_any D U _).mono ?_; rw [p1]; rintro e w1 ⟨rfl, hc1⟩; have C1 := hid (C0.out.f hc1); have W1 := hid (W0.out.f hc1); have O1 := hid (HO.out.below C1.out); have x2_ := W1.out.c2; have x3_ := W1.out.c3; have x36_ := W1.out.c36; have x37_ := W1.out.c37; have x38_ := W1.out.c38; have x39_ := W1.out.c39; clear hc1 T1 q_)
    | (go_at_call 27; have q_ := T2; refine (dwithin_any I 1073741824 _).mono ?_; rw [p2]; rintro e w2 ⟨rfl, rfl⟩; clear T2 q_)
    | (go_at_call 27; refine (dwithin_any V 1048576 _).mono ?_; rw [p3]; rintro e w2 ⟨rfl, rfl⟩)
    | (go_at_call 28; refine (HOP.out _ a L.length c L O1.out hc hn).mono ?_; rw [pc]; rintro e w3 ⟨rfl, hc3⟩; have C3 := hid (C1.out.f hc3); have W3 := hid (W1.out.f hc3); have y38_ := W3.out.c38; have y39_ := W3.out.c39; clear hc3)
    | (go_at_call 26; refine (user_any A B _).mono ?_; rw [p4]; rintro e w4 ⟨rfl, hc4⟩; have C3 := hid (C1.out.f hc4); clear hc4))
  go_ret
  exact ⟨by first | rfl | simp, C1.out⟩
set_option maxRecDepth 100000 in
set_option maxHeartbeats 2000000 in
theorem dcheck_add3true (chk : List O3 → Int) (hop : Chk 28 chk) (D U I V : Int) (H : List UInt8) (K : Int) (L : List O3) (A B : Int) (w : World) (a : Option Addr) (c : Nat) (hH : H.length = 32) (hO : OpsAt w a L.length L) (hc : L.length ≤ c) (hn : L.length ≤ 300) (p1 : uOk D U = true) (p2 : (decide (0 ≤ I) && decide (I ≤ 1073741824)) = true) (p3 : (decide (0 ≤ V) && decide (V ≤ 1048576)) = true) (hK : K = 3) (hl : L.length = 0) (p4 : uOk A B = true) :
    Calls Try.prog 11 #[.agg (D40 D U I V H K (.slice a L.length c) A B)] w fun e w' => e = .returned (.int .i64 0) ∧ Ch (fun _ => False) w w' := by
  have W0 := hid (DAt.new (w := w) (D := D) (U := U) (I := I) (V := V) (K := K) (o := .slice a L.length c) (A := A) (B := B) hH)
  have C0 := hid ((Ch.refl (fun _ => False) w).alloc (.cells (D40 D U I V H K (.slice a L.length c) A B) 30))
  have HOP := hid hop
  have HO := hid hO
  have x0 := W0.out.c0
  have x1 := W0.out.c1
  have EQ := eq24
  clear hop hO
  have T1 := hid True.intro
  have T2 := hid True.intro
  subst hK
  rw [hl] at *
  go_enter Try.func11, Try.ntmps11
  go_wp2_with (first
    | (go_at_call 26; have q_ := T1; refine (user_any D U _).mono ?_; rw [p1]; rintro e w1 ⟨rfl, hc1⟩; have C1 := hid (C0.out.f hc1); have W1 := hid (W0.out.f hc1); have O1 := hid (HO.out.below C1.out); have x2_ := W1.out.c2; have x3_ := W1.out.c3; have x36_ := W1.out.c36; have x37_ := W1.out.c37; have x38_ := W1.out.c38; have x39_ := W1.out.c39; clear hc1 T1 q_)
    | (go_at_call 27; have q_ := T2; refine (dwithin_any I 1073741824 _).mono ?_; rw [p2]; rintro e w2 ⟨rfl, rfl⟩; clear T2 q_)
    | (go_at_call 27; refine (dwithin_any V 1048576 _).mono ?_; rw [p3]; rintro e w2 ⟨rfl, rfl⟩)
    | (go_at_call 28; refine (HOP.out _ a L.length c L O1.out hc hn).mono ?_; rw [pc]; rintro e w3 ⟨rfl, hc3⟩; have C3 := hid (C1.out.f hc3); have W3 := hid (W1.out.f hc3); have y38_ := W3.out.c38; have y39_ := W3.out.c39; clear hc3)
    | (go_at_call 26; refine (user_any A B _).mono ?_; rw [p4]; rintro e w4 ⟨rfl, hc4⟩; have C3 := hid (C1.out.f hc4); clear hc4))
  go_ret
  exact ⟨by first | rfl | simp, C3.out⟩
set_option maxRecDepth 100000 in
set_option maxHeartbeats 2000000 in
theorem dcheck_add3false (chk : List O3 → Int) (hop : Chk 28 chk) (D U I V : Int) (H : List UInt8) (K : Int) (L : List O3) (A B : Int) (w : World) (a : Option Addr) (c : Nat) (hH : H.length = 32) (hO : OpsAt w a L.length L) (hc : L.length ≤ c) (hn : L.length ≤ 300) (p1 : uOk D U = true) (p2 : (decide (0 ≤ I) && decide (I ≤ 1073741824)) = true) (p3 : (decide (0 ≤ V) && decide (V ≤ 1048576)) = true) (hK : K = 3) (hl : L.length = 0) (p4 : uOk A B = false) :
    Calls Try.prog 11 #[.agg (D40 D U I V H K (.slice a L.length c) A B)] w fun e w' => e = .returned (.int .i64 1) ∧ Ch (fun _ => False) w w' := by
  have W0 := hid (DAt.new (w := w) (D := D) (U := U) (I := I) (V := V) (K := K) (o := .slice a L.length c) (A := A) (B := B) hH)
  have C0 := hid ((Ch.refl (fun _ => False) w).alloc (.cells (D40 D U I V H K (.slice a L.length c) A B) 30))
  have HOP := hid hop
  have HO := hid hO
  have x0 := W0.out.c0
  have x1 := W0.out.c1
  have EQ := eq24
  clear hop hO
  have T1 := hid True.intro
  have T2 := hid True.intro
  subst hK
  rw [hl] at *
  go_enter Try.func11, Try.ntmps11
  go_wp2_with (first
    | (go_at_call 26; have q_ := T1; refine (user_any D U _).mono ?_; rw [p1]; rintro e w1 ⟨rfl, hc1⟩; have C1 := hid (C0.out.f hc1); have W1 := hid (W0.out.f hc1); have O1 := hid (HO.out.below C1.out); have x2_ := W1.out.c2; have x3_ := W1.out.c3; have x36_ := W1.out.c36; have x37_ := W1.out.c37; have x38_ := W1.out.c38; have x39_ := W1.out.c39; clear hc1 T1 q_)
    | (go_at_call 27; have q_ := T2; refine (dwithin_any I 1073741824 _).mono ?_; rw [p2]; rintro e w2 ⟨rfl, rfl⟩; clear T2 q_)
    | (go_at_call 27; refine (dwithin_any V 1048576 _).mono ?_; rw [p3]; rintro e w2 ⟨rfl, rfl⟩)
    | (go_at_call 28; refine (HOP.out _ a L.length c L O1.out hc hn).mono ?_; rw [pc]; rintro e w3 ⟨rfl, hc3⟩; have C3 := hid (C1.out.f hc3); have W3 := hid (W1.out.f hc3); have y38_ := W3.out.c38; have y39_ := W3.out.c39; clear hc3)
    | (go_at_call 26; refine (user_any A B _).mono ?_; rw [p4]; rintro e w4 ⟨rfl, hc4⟩; have C3 := hid (C1.out.f hc4); clear hc4))
  go_ret
  exact ⟨by first | rfl | simp, C3.out⟩
theorem dcheck_any (chk : List O3 → Int) (hop : Chk 28 chk) : DChk 11 chk := by
  rintro ⟨D, U, I, V, H, K, L, A, B⟩ w a c hH hO hc hn
  show Calls Try.prog _ #[.agg (D40 D U I V H K (.slice a L.length c) A B)] w _
  dsimp only at hH hO hc hn
  cases p1 : uOk D U with
  | false =>
    rw [show dck chk ⟨D, U, I, V, H, K, L, A, B⟩ = 1 from by unfold dck; rw [if_pos (.inl p1)]]
    exact dcheck_bad chk hop D U I V H K L A B w a c hH hO hc hn p1
  | true =>
    cases p2 : (decide (0 ≤ I) && decide (I ≤ 1073741824)) with
    | false =>
      rw [show dck chk ⟨D, U, I, V, H, K, L, A, B⟩ = 1 from by unfold dck; rw [if_pos (.inr (.inl (by simpa using p2)))]]
      exact dcheck_id chk hop D U I V H K L A B w a c hH hO hc hn p1 p2
    | true =>
      cases p3 : (decide (0 ≤ V) && decide (V ≤ 1048576)) with
      | false =>
        rw [show dck chk ⟨D, U, I, V, H, K, L, A, B⟩ = 1 from by unfold dck; rw [if_pos (.inr (.inr (by simpa using p3)))]]
        exact dcheck_ver chk hop D U I V H K L A B w a c hH hO hc hn p1 p2 p3
      | true =>
        have hg : ¬ (uOk D U = false ∨ ¬ (0 ≤ I ∧ I ≤ 1073741824) ∨ ¬ (0 ≤ V ∧ V ≤ 1048576)) := by
          simp only [Bool.and_eq_true, decide_eq_true_eq] at p2 p3
          rintro (h | h | h)
          · rw [p1] at h; simp at h
          · exact h p2
          · exact h p3
        by_cases k1 : K = 1
        · by_cases hz : chk L = 0
          · by_cases hA : A = 0 ∧ B = 0
            · rw [show dck chk ⟨D, U, I, V, H, K, L, A, B⟩ = 0 from by unfold dck; rw [if_neg hg, if_pos k1, if_neg (by simpa using hz), if_pos hA]]
              exact dcheck_own chk hop D U I V H K L A B w a c hH hO hc hn p1 p2 p3 k1 hz hA
            · rw [show dck chk ⟨D, U, I, V, H, K, L, A, B⟩ = 1 from by unfold dck; rw [if_neg hg, if_pos k1, if_neg (by simpa using hz), if_neg hA]]
              exact dcheck_who chk hop D U I V H K L A B w a c hH hO hc hn p1 p2 p3 k1 hz hA
          · rw [show dck chk ⟨D, U, I, V, H, K, L, A, B⟩ = chk L from by unfold dck; rw [if_neg hg, if_pos k1, if_pos hz]]
            exact dcheck_op chk hop D U I V H K L A B w a c hH hO hc hn p1 p2 p3 k1 _ rfl hz
        · by_cases k23 : K = 2 ∨ K = 3
          · by_cases hl : L.length = 0
            · cases p4 : uOk A B with
              | false =>
                rw [show dck chk ⟨D, U, I, V, H, K, L, A, B⟩ = 1 from by unfold dck; rw [if_neg hg, if_neg k1, if_pos k23, if_neg (by rw [p4]; simp)]]
                rcases k23 with k | k
                · exact dcheck_add2false chk hop D U I V H K L A B w a c hH hO hc hn p1 p2 p3 k hl p4
                · exact dcheck_add3false chk hop D U I V H K L A B w a c hH hO hc hn p1 p2 p3 k hl p4
              | true =>
                rw [show dck chk ⟨D, U, I, V, H, K, L, A, B⟩ = 0 from by unfold dck; rw [if_neg hg, if_neg k1, if_pos k23, if_pos ⟨hl, p4⟩]]
                rcases k23 with k | k
                · exact dcheck_add2true chk hop D U I V H K L A B w a c hH hO hc hn p1 p2 p3 k hl p4
                · exact dcheck_add3true chk hop D U I V H K L A B w a c hH hO hc hn p1 p2 p3 k hl p4
            · rw [show dck chk ⟨D, U, I, V, H, K, L, A, B⟩ = 1 from by unfold dck; rw [if_neg hg, if_neg k1, if_pos k23, if_neg (fun h => hl h.1)]]
              rcases k23 with k | k
              · exact dcheck_full2 chk hop D U I V H K L A B w a c hH hO hc hn p1 p2 p3 k (by omega)
              · exact dcheck_full3 chk hop D U I V H K L A B w a c hH hO hc hn p1 p2 p3 k (by omega)
          · rw [show dck chk ⟨D, U, I, V, H, K, L, A, B⟩ = 3 from by unfold dck; rw [if_neg hg, if_neg k1, if_neg k23]]
            exact dcheck_kind chk hop D U I V H K L A B w a c hH hO hc hn p1 p2 p3 k1 (fun h => k23 (.inl h)) (fun h => k23 (.inr h))
end Cd
end Go.Proofs.Ytpcgamgjgfdpaaa

namespace Go.Proofs.Ytpcgamgjgfdpaaa
namespace Cd
open Go.RowKit Go.Cx Go.OpM Go.Proofs.Ytpcgamgjgfdpaaa.Q Go.Proofs.YtpcgamgjgfdpaaaW.PrintWords Go.Proofs.YtpcgamgjgfdpaaaW.PrintLast Go.Proofs.YtpcgamgjgfdpaaaW.PrintMore
set_option linter.unusedVariables false
set_option linter.unusedSimpArgs false

set_option maxRecDepth 100000 in
set_option maxHeartbeats 4000000 in
theorem xaddr_any (q : Nat) (a : Option Addr) (n c : Nat) (L l l1 l2 : List UInt8) (e e1 e2 A B : Int) (w : World) (h : RX w q a n c L l e) (hn : n ≤ 1000000) (hL : n = L.length) (hS : ∀ w', Ch (fun k => k = q) w w' → Sl w' 1 a n c (bv L))
    (h1 : rdI l e = (A, l1, e1)) (h2 : rdI l1 e1 = (B, l2, e2)) : Calls Try.prog 51 #[.pointer (some ⟨q, 0, none⟩)] w (RXPost w q a n c L (.agg #[.int .i64 A, .int .i64 B]) l2 e2) := by
  have HR := hid h
  have HS := hid hS
  have E1 := hid h1
  have E2 := hid h2
  have QL := hid h.lt
  clear h hS h1 h2
  go_enter Try.func51, Try.ntmps51
  go_wp2_with (first
    | (go_at_call 46; refine (xi_any q a n c L l e _ (HR.out.ch ((Ch.refl (fun _ => False) w).alloc _) id) hn hL (fun w' h' => HS.out w' (((Ch.refl (fun k => k = q) w).alloc _).trans h' (fun _ _ h => h)))).mono ?_; rw [E1.out]; rintro e w2 ⟨rfl, hr, hc⟩; have R2 := hid hr; have C2 := hid (((Ch.refl (fun k => k = q) w).alloc _).trans hc (fun _ _ h => h)); have G0 := hid (hc.heap (alloc_blk_new _ rfl) (fun h => by have := QL.out; omega)); have ne := Nat.ne_of_lt (lt_of_block G0.out); have ne' := Ne.symm ne; clear hr hc HR)
    | (go_at_call 46; refine (xi_any q a n c L l1 e1 _ (R2.out.ch ((Ch.refl (fun _ => False) _).alloc _) id) hn hL (fun w' h' => HS.out w' ((C2.out.alloc _).trans h' (fun _ _ h => h)))).mono ?_; rw [E2.out]; rintro e w3 ⟨rfl, hr, hc⟩; have R3 := hid hr; have C3 := hid ((C2.out.alloc _).trans hc (fun _ _ h => h)); have G2 := hid (hc.heap (((Ch.refl (fun _ => False) _).alloc _).heap G0.out id) (fun h => by have := QL.out; omega)); have G3 := hid (hc.heap (alloc_blk_new _ rfl) (fun h => by have := R2.out.lt; omega)); have c20 := cell_blk G2.out 0; have c21 := cell_blk G2.out 1; have f20 := frozen_blk G2.out 0; have f21 := frozen_blk G2.out 1; have c30 := cell_blk G3.out 0; have c31 := cell_blk G3.out 1; have f31 := frozen_blk G3.out 1; dsimp at c20 c21 c30 c31; clear hr hc))
  refine bodyPost_ret (results_cell_row rfl _ _ w.heap.size 24 #[.int .i64 A, .int .i64 B] (0, 0) _ rfl ((set_blk (set_blk (set_blk_ne G2.out 1 _ ne') 0 _) 1 _).trans rfl) Try.underlying24 rfl (by kernel_rfl)) rfl ?_
  have hw2 : w.heap.size ≤ w2.heap.size := C2.out.size
  exact ⟨rfl, R3.out.ch ((((Ch.refl (fun k => k = w.heap.size ∨ k = w2.heap.size) w3).set (.inl (.inr rfl))).set (.inl (.inl rfl))).set (.inl (.inl rfl))) (by have := QL.out; rintro (h | h) <;> omega), ((C3.out.set (.inr hw2)).set (.inr (Nat.le_refl _))).set (.inr (Nat.le_refl _))⟩
theorem bv_one32 (H : List UInt8) : (bv H).toArray.all (·.oneCell') = true := all_oneCell_toArray (bv_one H)
theorem bv_size (H : List UInt8) (h : H.length = 32) : (Try.prog.info? 26).map (·.size) = some (bv H).toArray.size := by rw [List.size_toArray, bv_length, h]; exact sz32
theorem bv_set (H : List UInt8) (k : Nat) (b : UInt8) : (bv H).toArray.setIfInBounds k (.int .u8 (b.toNat : Int)) = (bv (H.set k b)).toArray := by
  rw [List.setIfInBounds_toArray]
  unfold bv
  rw [List.map_set]
set_option maxRecDepth 100000 in
set_option maxHeartbeats 8000000 in
theorem xhash_any (q : Nat) (a : Option Addr) (n c : Nat) (L l l5 : List UInt8) (e e5 : Int) (H : List UInt8) (w : World) (h : RX w q a n c L l e) (hn : n ≤ 1000000) (hL : n = L.length) (hS : ∀ w', Ch (fun k => k = q) w w' → Sl w' 1 a n c (bv L))
    (h1 : rdH 32 l e = (H, l5, e5)) : Calls Try.prog 52 #[.pointer (some ⟨q, 0, none⟩)] w (RXPost w q a n c L (.agg (bv H).toArray) l5 e5) := by
  have HR := hid h
  have HS := hid hS
  have E1 := hid h1
  have QL := hid h.lt
  have HL := hid (show H.length = 32 by have := rdH_len 32 l e; rw [h1] at this; exact this)
  clear h hS h1
  go_enter Try.func52, Try.ntmps52
  go_upto_region 0 with (fail)
  go_cut [2] (fun v2 wc => ∃ g2 : Nat, v2 = .pointer (some ⟨g2, 0, none⟩) ∧ w.heap.size ≤ g2 ∧ g2 < wc.heap.size ∧ Hid (wc.heap[g2]? = some (.cells (bv (List.replicate 32 0)).toArray 26 (0, 0))) ∧ Hid (Ch (fun _ => False) w wc))
  case first =>
    go_wp2
    go_meet
    case rel => exact ⟨w.heap.size, rfl, Nat.le_refl _, by simp, hid (alloc_blk_new _ rfl), hid ((Ch.refl _ _).alloc _)⟩
  case rest =>
    obtain ⟨g2, rfl, hb2, hl2, G2, C2⟩ := hcut
    go_upto_region 1 with (fail)
    go_cut [3] (fun v3 wd => ∃ g3 : Nat, v3 = .pointer (some ⟨g3, 0, none⟩) ∧ g2 < g3 ∧ Hid (wd.heap[g3]? = some (.cells (bv (List.replicate 32 0)).toArray 26 (0, 0))) ∧ Hid (wd.heap[g2]? = some (.cells (bv (List.replicate 32 0)).toArray 26 (0, 0))) ∧ Hid (Ch (fun _ => False) w wd))
    case first =>
      go_wp2_with (refine wpList_store_row rfl 26 _ _ rfl _ (bv (List.replicate 32 0)).toArray rfl (by rfl) 26 _ (heap_alloc_last _ _) (bv_size _ (by simp)) (by simp [bv]) (bv_one32 _) ?_; rw [World.setRow_alloc_new])
      go_meet
      case rel => exact ⟨wc.heap.size, rfl, hl2, hid (alloc_blk_new _ rfl), hid (((Ch.refl (fun _ => False) _).alloc _).heap G2.out id), hid (C2.out.alloc _)⟩
    case rest =>
      obtain ⟨g3, rfl, h23, G3, G2', CC⟩ := hcut
      have RX0 := hid (HR.out.ch CC.out id)
      have h3l := lt_of_block G3.out
      have q3 : q < w.heap.size := QL.out
      have hb3 : w.heap.size ≤ g3 := by omega
      have n32 : g3 ≠ g2 := by omega
      clear G2 C2 HR hl2
      have CQ := hid (CC.out.weaken (T := fun k => k = q) (fun _ _ h => h.elim))
      go_wp2
      go_loopg [4] 32 (fun g v4 wr => ∃ (k : Nat) (Hc l : List UInt8) (e : Int), k + g = 32 ∧ v4 = .int .i64 k ∧ Hc.length = k ∧ Hid (wr.heap[g3]? = some (.cells (bv (Hc ++ List.replicate (32 - k) 0)).toArray 26 (0, 0))) ∧ Hid (RX wr q a n c L l e) ∧ Hid (wr.heap[g2]? = some (.cells (bv (List.replicate 32 0)).toArray 26 (0, 0))) ∧ Hid (Ch (fun k => k = q) w wr) ∧ Hid ((H, l5, e5) = (Hc ++ (rdH g l e).1, (rdH g l e).2)))
      case atStart => exact ⟨0, [], l, e, by omega, rfl, rfl, G3, RX0, G2', CQ, hid E1.out.symm⟩
      case round =>
        obtain ⟨k, Hc, l, e, hkg, rfl, hk, X, R, O, C, RE⟩ := hrel
        clear G3 RX0 G2' CC CQ
        by_cases hlt : k < 32
        · obtain ⟨g, rfl⟩ : ∃ g, gk = g + 1 := ⟨gk - 1, by omega⟩
          obtain ⟨v, l', e', hv⟩ : ∃ v l' e', rdB l e = (v, l', e') := ⟨_, _, _, rfl⟩
          have HV := hid hv
          have RE2 := hid (show (H, l5, e5) = (Hc ++ [u8of v] ++ (rdH g l' e').1, (rdH g l' e').2) by rw [RE.out]; simp [rdH, hv])
          have ev : IntKind.u8.wrap v = (((u8of v).toNat : Nat) : Int) := by rw [u8of_val, IntKind.wrap_u8]
          have HK := hid hk
          have hlti : (k : Int) < 32 := by omega
          have i0 : (0 : Int) ≤ k := by omega
          have c4 := (cell_blk X.out k).trans (show (bv (Hc ++ List.replicate (32 - k) 0)).toArray[k]? = some (.int .u8 0) by rw [List.getElem?_toArray]; unfold bv; rw [List.getElem?_map, List.getElem?_append_right (by omega), HK.out, Nat.sub_self, List.getElem?_replicate, if_pos (by omega)]; rfl)
          have C4 := hid c4
          clear hv hk RE c4
          go_wp2_with (go_at_call 44; refine (xb_any q a n c L l e _ R.out hn hL (fun w' h' => HS.out w' (C.out.trans h' (fun _ _ h => h)))).mono ?_; rw [HV.out]; rintro e_ w2 ⟨rfl, hr, hc⟩; have R2 := hid hr; have X2 := hid (hc.heap X.out (show ¬ g3 = q by omega)); have O2 := hid (hc.heap O.out (show ¬ g2 = q by omega)); have C2 := hid (C.out.trans hc (fun _ _ h => h)); have c4 := hc.cell C4.out (show ¬ g3 = q by omega); have f4 := frozen_blk X2.out k; clear hr hc)
          go_roundg g
          case measure => omega
          case rel =>
            refine ⟨k + 1, Hc ++ [u8of v], l', e', by omega, by go_num, by rw [List.length_append, HK.out]; rfl, hid ((set_blk X2.out k _).trans ?_), hid (R2.out.ch ((Ch.refl (fun i => i = g3) _).set (.inl rfl)) (by omega)), hid (set_blk_ne O2.out _ _ n32), hid (C2.out.set (.inr hb3)), RE2⟩
            rw [bv_set, hash_next Hc k _ HK.out hlt]
        · obtain rfl : k = 32 := by omega
          obtain rfl : gk = 0 := by omega
          have RE2 := RE.out
          simp only [rdH, List.append_nil, Prod.mk.injEq] at RE2
          obtain ⟨rfl, rfl, rfl⟩ := RE2
          rw [Nat.sub_self, List.replicate_zero, List.append_nil] at X
          clear RE hk hkg hlt E1
          go_wp2_with (first
            | (refine wpList_load_row rfl 26 _ rfl g3 rfl 26 (bv H).toArray (0, 0) _ X.out Try.underlying26 rfl (bv_size _ HL.out) ?_)
            | (refine wpList_store_row rfl 26 _ _ rfl g2 (bv H).toArray rfl rfl 26 _ O.out (bv_size _ HL.out) (by simp [bv, HL.out]) (bv_one32 _) ?_))
          refine bodyPost_ret (results_cell_row rfl _ _ g2 26 (bv H).toArray (0, 0) _ rfl (setRow_blk O.out) Try.underlying26 rfl (bv_size _ HL.out)) rfl ?_
          exact ⟨rfl, R.out.ch ((Ch.refl (fun i => i = g2) _).setRow _ (.inl rfl)) (by omega), C.out.setRow _ (.inr hb2)⟩
end Cd
end Go.Proofs.Ytpcgamgjgfdpaaa

namespace Go.Proofs.Ytpcgamgjgfdpaaa
namespace Cd
open Go.RowKit Go.Cx Go.OpM Go.Proofs.Ytpcgamgjgfdpaaa.Q Go.Proofs.YtpcgamgjgfdpaaaW.PrintWords Go.Proofs.YtpcgamgjgfdpaaaW.PrintLast Go.Proofs.YtpcgamgjgfdpaaaW.PrintMore
set_option linter.unusedVariables false
set_option linter.unusedSimpArgs false


set_option maxRecDepth 100000 in
set_option maxHeartbeats 1000000 in
theorem xuser_any (D U : Int) (w : World) : Calls Try.prog 62 #[.agg #[.int .i64 D, .int .i64 U]] w (UserPost w (uOk D U)) := by
  cases d0 : decide (0 ≤ D) with
  | false =>
    have h0 : ¬ (0 ≤ D) := of_decide_eq_false d0
    have r : uOk D U = false := by unfold uOk; rw [d0]; rfl
    rw [r]
    clear r d0
    go_enter Try.func62, Try.ntmps62
    go_wp2
    go_ret
    exact ⟨rfl, (Ch.refl _ w).alloc _⟩
  | true =>
    have h0 : 0 ≤ D := of_decide_eq_true d0
    cases d1 : decide (D ≤ 2) with
    | false =>
      have h1 : ¬ (D < 3) := by have := of_decide_eq_false d1; omega
      have r : uOk D U = false := by unfold uOk; rw [d0, d1]; rfl
      rw [r]
      clear r d0 d1
      go_enter Try.func62, Try.ntmps62
      go_wp2
      go_ret
      exact ⟨rfl, (Ch.refl _ w).alloc _⟩
    | true =>
      have h1 : D < 3 := by have := of_decide_eq_true d1; omega
      cases u0 : decide (0 ≤ U) with
      | false =>
        have h2 : ¬ (0 ≤ U) := of_decide_eq_false u0
        have r : uOk D U = false := by unfold uOk; rw [d0, d1, u0]; rfl
        rw [r]
        clear r d0 d1 u0
        go_enter Try.func62, Try.ntmps62
        go_wp2
        go_ret
        exact ⟨rfl, (Ch.refl _ w).alloc _⟩
      | true =>
        have h2 : 0 ≤ U := of_decide_eq_true u0
        cases u1 : decide (U ≤ 7) with
        | false =>
          have h3 : ¬ (U < 8) := by have := of_decide_eq_false u1; omega
          have r : uOk D U = false := by unfold uOk; rw [d0, d1, u0, u1]; rfl
          rw [r]
          clear r d0 d1 u0 u1
          go_enter Try.func62, Try.ntmps62
          go_wp2
          go_ret
          exact ⟨rfl, (Ch.refl _ w).alloc _⟩
        | true =>
          have h3 : U < 8 := by have := of_decide_eq_true u1; omega
          have r : uOk D U = true := by unfold uOk; rw [d0, d1, u0, u1]; rfl
          rw [r]
          clear r d0 d1 u0 u1
          go_enter Try.func62, Try.ntmps62
          go_wp2
          go_ret
          exact ⟨rfl, (Ch.refl _ w).alloc _⟩
set_option maxRecDepth 100000 in
set_option maxHeartbeats 2000000 in
theorem xcheck_bad (chk : List O3 → Int) (hop : Chk 49 chk) (D U I V : Int) (H : List UInt8) (K : Int) (L : List O3) (A B : Int) (w : World) (a : Option Addr) (c : Nat) (hH : H.length = 32) (hO : OpsAt w a L.length L) (hc : L.length ≤ c) (hn : L.length ≤ 300) (p1 : uOk D U = false) :
    Calls Try.prog 53 #[.agg (D40 D U I V H K (.slice a L.length c) A B)] w fun e w' => e = .returned (.int .i64 1) ∧ Ch (fun _ => False) w w' := by
  have W0 := hid (DAt.new (w := w) (D := D) (U := U) (I := I) (V := V) (K := K) (o := .slice a L.length c) (A := A) (B := B) hH)
  have C0 := hid ((Ch.refl (fun _ => False) w).alloc (.cells (D40 D U I V H K (.slice a L.length c) A B) 30))
  have HOP := hid hop
  have HO := hid hO
  have x0 := W0.out.c0
  have x1 := W0.out.c1
  have EQ := eq24
  clear hop hO
  have T1 := hid True.intro
  have T2 := hid True.intro
  go_enter Try.func53, Try.ntmps53
  go_wp2_with (first
    | (go_at_call 62; have q_ := T1; refine (xuser_any D U _).mono ?_; rw [p1]; rintro e w1 ⟨rfl, hc1⟩; have C1 := hid (C0.out.f hc1); have W1 := hid (W0.out.f hc1); have O1 := hid (HO.out.below C1.out); have x2_ := W1.out.c2; have x3_ := W1.out.c3; have x36_ := W1.out.c36; have x37_ := W1.out.c37; have x38_ := W1.out.c38; have x39_ := W1.out.c39; clear hc1 T1 q_)
    | (go_at_call 49; refine (HOP.out _ a L.length c L O1.out hc hn).mono ?_; rw [pc]; rintro e w3 ⟨rfl, hc3⟩; have C3 := hid (C1.out.f hc3); have W3 := hid (W1.out.f hc3); have y38_ := W3.out.c38; have y39_ := W3.out.c39; clear hc3)
    | (go_at_call 62; refine (xuser_any A B _).mono ?_; rw [p4]; rintro e w4 ⟨rfl, hc4⟩; have C3 := hid (C1.out.f hc4); clear hc4))
  go_ret
  exact ⟨by first | rfl | simp, C1.out⟩
set_option maxRecDepth 100000 in
set_option maxHeartbeats 2000000 in
theorem xcheck_id (chk : List O3 → Int) (hop : Chk 49 chk) (D U I V : Int) (H : List UInt8) (K : Int) (L : List O3) (A B : Int) (w : World) (a : Option Addr) (c : Nat) (hH : H.length = 32) (hO : OpsAt w a L.length L) (hc : L.length ≤ c) (hn : L.length ≤ 300) (p1 : uOk D U = true) (p2 : (decide (0 ≤ I) && decide (I ≤ 1073741824)) = false) :
    Calls Try.prog 53 #[.agg (D40 D U I V H K (.slice a L.length c) A B)] w fun e w' => e = .returned (.int .i64 1) ∧ Ch (fun _ => False) w w' := by
  have W0 := hid (DAt.new (w := w) (D := D) (U := U) (I := I) (V := V) (K := K) (o := .slice a L.length c) (A := A) (B := B) hH)
  have C0 := hid ((Ch.refl (fun _ => False) w).alloc (.cells (D40 D U I V H K (.slice a L.length c) A B) 30))
  have HOP := hid hop
  have HO := hid hO
  have x0 := W0.out.c0
  have x1 := W0.out.c1
  have EQ := eq24
  clear hop hO
  have T1 := hid True.intro
  have T2 := hid True.intro
  have hi : ¬ (0 ≤ I ∧ I ≤ 1073741824) := by simpa using p2
  rcases (show I < 0 ∨ 1073741824 < I by omega) with q1 | q1
  · clear hi
    go_enter Try.func53, Try.ntmps53
    go_wp2_with (first
      | (go_at_call 62; have q_ := T1; refine (xuser_any D U _).mono ?_; rw [p1]; rintro e w1 ⟨rfl, hc1⟩; have C1 := hid (C0.out.f hc1); have W1 := hid (W0.out.f hc1); have O1 := hid (HO.out.below C1.out); have x2_ := W1.out.c2; have x3_ := W1.out.c3; have x36_ := W1.out.c36; have x37_ := W1.out.c37; have x38_ := W1.out.c38; have x39_ := W1.out.c39; clear hc1 T1 q_)
      | (go_at_call 49; refine (HOP.out _ a L.length c L O1.out hc hn).mono ?_; rw [pc]; rintro e w3 ⟨rfl, hc3⟩; have C3 := hid (C1.out.f hc3); have W3 := hid (W1.out.f hc3); have y38_ := W3.out.c38; have y39_ := W3.out.c39; clear hc3)
      | (go_at_call 62; refine (xuser_any A B _).mono ?_; rw [p4]; rintro e w4 ⟨rfl, hc4⟩; have C3 := hid (C1.out.f hc4); clear hc4))
    go_ret
    exact ⟨by first | rfl | simp, C1.out⟩
  · have q0 : ¬ (I < 0) := by omega
    clear hi
    go_enter Try.func53, Try.ntmps53
    go_wp2_with (first
      | (go_at_call 62; have q_ := T1; refine (xuser_any D U _).mono ?_; rw [p1]; rintro e w1 ⟨rfl, hc1⟩; have C1 := hid (C0.out.f hc1); have W1 := hid (W0.out.f hc1); have O1 := hid (HO.out.below C1.out); have x2_ := W1.out.c2; have x3_ := W1.out.c3; have x36_ := W1.out.c36; have x37_ := W1.out.c37; have x38_ := W1.out.c38; have x39_ := W1.out.c39; clear hc1 T1 q_)
      | (go_at_call 49; refine (HOP.out _ a L.length c L O1.out hc hn).mono ?_; rw [pc]; rintro e w3 ⟨rfl, hc3⟩; have C3 := hid (C1.out.f hc3); have W3 := hid (W1.out.f hc3); have y38_ := W3.out.c38; have y39_ := W3.out.c39; clear hc3)
      | (go_at_call 62; refine (xuser_any A B _).mono ?_; rw [p4]; rintro e w4 ⟨rfl, hc4⟩; have C3 := hid (C1.out.f hc4); clear hc4))
    go_ret
    exact ⟨by first | rfl | simp, C1.out⟩
set_option maxRecDepth 100000 in
set_option maxHeartbeats 2000000 in
theorem xcheck_ver (chk : List O3 → Int) (hop : Chk 49 chk) (D U I V : Int) (H : List UInt8) (K : Int) (L : List O3) (A B : Int) (w : World) (a : Option Addr) (c : Nat) (hH : H.length = 32) (hO : OpsAt w a L.length L) (hc : L.length ≤ c) (hn : L.length ≤ 300) (p1 : uOk D U = true) (p2 : (decide (0 ≤ I) && decide (I ≤ 1073741824)) = true) (p3 : (decide (0 ≤ V) && decide (V ≤ 1048576)) = false) :
    Calls Try.prog 53 #[.agg (D40 D U I V H K (.slice a L.length c) A B)] w fun e w' => e = .returned (.int .i64 1) ∧ Ch (fun _ => False) w w' := by
  have W0 := hid (DAt.new (w := w) (D := D) (U := U) (I := I) (V := V) (K := K) (o := .slice a L.length c) (A := A) (B := B) hH)
  have C0 := hid ((Ch.refl (fun _ => False) w).alloc (.cells (D40 D U I V H K (.slice a L.length c) A B) 30))
  have HOP := hid hop
  have HO := hid hO
  have x0 := W0.out.c0
  have x1 := W0.out.c1
  have EQ := eq24
  clear hop hO
  have T1 := hid True.intro
  have T2 := hid True.intro
  obtain ⟨i0_, i1_⟩ : (0 ≤ I) ∧ I ≤ 1073741824 := by simpa using p2
  have i0 : ¬ (I < 0) := by omega
  have i1 : ¬ (1073741824 < I) := by omega
  clear i0_ i1_
  have hi : ¬ (0 ≤ V ∧ V ≤ 1048576) := by simpa using p3
  rcases (show V < 0 ∨ 1048576 < V by omega) with q1 | q1
  · clear hi
    go_enter Try.func53, Try.ntmps53
    go_wp2_with (first
      | (go_at_call 62; have q_ := T1; refine (xuser_any D U _).mono ?_; rw [p1]; rintro e w1 ⟨rfl, hc1⟩; have C1 := hid (C0.out.f hc1); have W1 := hid (W0.out.f hc1); have O1 := hid (HO.out.below C1.out); have x2_ := W1.out.c2; have x3_ := W1.out.c3; have x36_ := W1.out.c36; have x37_ := W1.out.c37; have x38_ := W1.out.c38; have x39_ := W1.out.c39; clear hc1 T1 q_)
      | (go_at_call 49; refine (HOP.out _ a L.length c L O1.out hc hn).mono ?_; rw [pc]; rintro e w3 ⟨rfl, hc3⟩; have C3 := hid (C1.out.f hc3); have W3 := hid (W1.out.f hc3); have y38_ := W3.out.c38; have y39_ := W3.out.c39; clear hc3)
      | (go_at_call 62; refine (xuser_any A B _).mono ?_; rw [p4]; rintro e w4 ⟨rfl, hc4⟩; have C3 := hid (C1.out.f hc4); clear hc4))
    go_ret
    exact ⟨by first | rfl | simp, C1.out⟩
  · have q0 : ¬ (V < 0) := by omega
    clear hi
    go_enter Try.func53, Try.ntmps53
    go_wp2_with (first
      | (go_at_call 62; have q_ := T1; refine (xuser_any D U _).mono ?_; rw [p1]; rintro e w1 ⟨rfl, hc1⟩; have C1 := hid (C0.out.f hc1); have W1 := hid (W0.out.f hc1); have O1 := hid (HO.out.below C1.out); have x2_ := W1.out.c2; have x3_ := W1.out.c3; have x36_ := W1.out.c36; have x37_ := W1.out.c37; have x38_ := W1.out.c38; have x39_ := W1.out.c39; clear hc1 T1 q_)
      | (go_at_call 49; refine (HOP.out _ a L.length c L O1.out hc hn).mono ?_; rw [pc]; rintro e w3 ⟨rfl, hc3⟩; have C3 := hid (C1.out.f hc3); have W3 := hid (W1.out.f hc3); have y38_ := W3.out.c38; have y39_ := W3.out.c39; clear hc3)
      | (go_at_call 62; refine (xuser_any A B _).mono ?_; rw [p4]; rintro e w4 ⟨rfl, hc4⟩; have C3 := hid (C1.out.f hc4); clear hc4))
    go_ret
    exact ⟨by first | rfl | simp, C1.out⟩
set_option maxRecDepth 100000 in
set_option maxHeartbeats 2000000 in
theorem xcheck_op (chk : List O3 → Int) (hop : Chk 49 chk) (D U I V : Int) (H : List UInt8) (K : Int) (L : List O3) (A B : Int) (w : World) (a : Option Addr) (c : Nat) (hH : H.length = 32) (hO : OpsAt w a L.length L) (hc : L.length ≤ c) (hn : L.length ≤ 300) (p1 : uOk D U = true) (p2 : (decide (0 ≤ I) && decide (I ≤ 1073741824)) = true) (p3 : (decide (0 ≤ V) && decide (V ≤ 1048576)) = true) (hK : K = 1) (z : Int) (pc : chk L = z) (hz : z ≠ 0) :
    Calls Try.prog 53 #[.agg (D40 D U I V H K (.slice a L.length c) A B)] w fun e w' => e = .returned (.int .i64 z) ∧ Ch (fun _ => False) w w' := by
  have W0 := hid (DAt.new (w := w) (D := D) (U := U) (I := I) (V := V) (K := K) (o := .slice a L.length c) (A := A) (B := B) hH)
  have C0 := hid ((Ch.refl (fun _ => False) w).alloc (.cells (D40 D U I V H K (.slice a L.length c) A B) 30))
  have HOP := hid hop
  have HO := hid hO
  have x0 := W0.out.c0
  have x1 := W0.out.c1
  have EQ := eq24
  clear hop hO
  have T1 := hid True.intro
  have T2 := hid True.intro
  obtain ⟨i0_, i1_⟩ : (0 ≤ I) ∧ I ≤ 1073741824 := by simpa using p2
  have i0 : ¬ (I < 0) := by omega
  have i1 : ¬ (1073741824 < I) := by omega
  clear i0_ i1_
  obtain ⟨v0_, v1_⟩ : (0 ≤ V) ∧ V ≤ 1048576 := by simpa using p3
  have v0 : ¬ (V < 0) := by omega
  have v1 : ¬ (1048576 < V) := by omega
  clear v0_ v1_
  subst hK
  have z1 : (z == 0) = false := beq_eq_false_iff_ne.2 hz
  go_enter Try.func53, Try.ntmps53
  go_wp2_with (first
    | (go_at_call 62; have q_ := T1; refine (xuser_any D U _).mono ?_; rw [p1]; rintro e w1 ⟨rfl, hc1⟩; have C1 := hid (C0.out.f hc1); have W1 := hid (W0.out.f hc1); have O1 := hid (HO.out.below C1.out); have x2_ := W1.out.c2; have x3_ := W1.out.c3; have x36_ := W1.out.c36; have x37_ := W1.out.c37; have x38_ := W1.out.c38; have x39_ := W1.out.c39; clear hc1 T1 q_)
    | (go_at_call 49; refine (HOP.out _ a L.length c L O1.out hc hn).mono ?_; rw [pc]; rintro e w3 ⟨rfl, hc3⟩; have C3 := hid (C1.out.f hc3); have W3 := hid (W1.out.f hc3); have y38_ := W3.out.c38; have y39_ := W3.out.c39; clear hc3)
    | (go_at_call 62; refine (xuser_any A B _).mono ?_; rw [p4]; rintro e w4 ⟨rfl, hc4⟩; have C3 := hid (C1.out.f hc4); clear hc4))
  go_ret
  exact ⟨by first | rfl | simp, C3.out⟩
set_option maxRecDepth 100000 in
set_option maxHeartbeats 2000000 in
theorem xcheck_own (chk : List O3 → Int) (hop : Chk 49 chk) (D U I V : Int) (H : List UInt8) (K : Int) (L : List O3) (A B : Int) (w : World) (a : Option Addr) (c : Nat) (hH : H.length = 32) (hO : OpsAt w a L.length L) (hc : L.length ≤ c) (hn : L.length ≤ 300) (p1 : uOk D U = true) (p2 : (decide (0 ≤ I) && decide (I ≤ 1073741824)) = true) (p3 : (decide (0 ≤ V) && decide (V ≤ 1048576)) = true) (hK : K = 1) (pc : chk L = 0) (hA : A = 0 ∧ B = 0) :
    Calls Try.prog 53 #[.agg (D40 D U I V H K (.slice a L.length c) A B)] w fun e w' => e = .returned (.int .i64 0) ∧ Ch (fun _ => False) w w' := by
  have W0 := hid (DAt.new (w := w) (D := D) (U := U) (I := I) (V := V) (K := K) (o := .slice a L.length c) (A := A) (B := B) hH)
  have C0 := hid ((Ch.refl (fun _ => False) w).alloc (.cells (D40 D U I V H K (.slice a L.length c) A B) 30))
  have HOP := hid hop
  have HO := hid hO
  have x0 := W0.out.c0
  have x1 := W0.out.c1
  have EQ := eq24
  clear hop hO
  have T1 := hid True.intro
  have T2 := hid True.intro
  obtain ⟨i0_, i1_⟩ : (0 ≤ I) ∧ I ≤ 1073741824 := by simpa using p2
  have i0 : ¬ (I < 0) := by omega
  have i1 : ¬ (1073741824 < I) := by omega
  clear i0_ i1_
  obtain ⟨v0_, v1_⟩ : (0 ≤ V) ∧ V ≤ 1048576 := by simpa using p3
  have v0 : ¬ (V < 0) := by omega
  have v1 : ¬ (1048576 < V) := by omega
  clear v0_ v1_
  subst hK
  obtain ⟨rfl, rfl⟩ := hA
  go_enter Try.func53, Try.ntmps53
  go_wp2_with (first
    | (go_at_call 62; have q_ := T1; refine (xuser_any D U _).mono ?_; rw [p1]; rintro e w1 ⟨rfl, hc1⟩; have C1 := hid (C0.out.f hc1); have W1 := hid (W0.out.f hc1); have O1 := hid (HO.out.below C1.out); have x2_ := W1.out.c2; have x3_ := W1.out.c3; have x36_ := W1.out.c36; have x37_ := W1.out.c37; have x38_ := W1.out.c38; have x39_ := W1.out.c39; clear hc1 T1 q_)
    | (go_at_call 49; refine (HOP.out _ a L.length c L O1.out hc hn).mono ?_; rw [pc]; rintro e w3 ⟨rfl, hc3⟩; have C3 := hid (C1.out.f hc3); have W3 := hid (W1.out.f hc3); have y38_ := W3.out.c38; have y39_ := W3.out.c39; clear hc3)
    | (go_at_call 62; refine (xuser_any A B _).mono ?_; rw [p4]; rintro e w4 ⟨rfl, hc4⟩; have C3 := hid (C1.out.f hc4); clear hc4))
  go_ret
  exact ⟨by first | rfl | simp, C3.out⟩
set_option maxRecDepth 100000 in
set_option maxHeartbeats 2000000 in
theorem xcheck_who (chk : List O3 → Int) (hop : Chk 49 chk) (D U I V : Int) (H : List UInt8) (K : Int) (L : List O3) (A B : Int) (w : World) (a : Option Addr) (c : Nat) (hH : H.length = 32) (hO : OpsAt w a L.length L) (hc : L.length ≤ c) (hn : L.length ≤ 300) (p1 : uOk D U = true) (p2 : (decide (0 ≤ I) && decide (I ≤ 1073741824)) = true) (p3 : (decide (0 ≤ V) && decide (V ≤ 1048576)) = true) (hK : K = 1) (pc : chk L = 0) (hA : ¬ (A = 0 ∧ B = 0)) :
    Calls Try.prog 53 #[.agg (D40 D U I V H K (.slice a L.length c) A B)] w fun e w' => e = .returned (.int .i64 1) ∧ Ch (fun _ => False) w w' := by
  have W0 := hid (DAt.new (w := w) (D := D) (U := U) (I := I) (V := V) (K := K) (o := .slice a L.length c) (A := A) (B := B) hH)
  have C0 := hid ((Ch.refl (fun _ => False) w).alloc (.cells (D40 D U I V H K (.slice a L.length c) A B) 30))
  have HOP := hid hop
  have HO := hid hO
  have x0 := W0.out.c0
  have x1 := W0.out.c1
  have EQ := eq24
  clear hop hO
  have T1 := hid True.intro
  have T2 := hid True.intro
  obtain ⟨i0_, i1_⟩ : (0 ≤ I) ∧ I ≤ 1073741824 := by simpa using p2
  have i0 : ¬ (I < 0) := by omega
  have i1 : ¬ (1073741824 < I) := by omega
  clear i0_ i1_
  obtain ⟨v0_, v1_⟩ : (0 ≤ V) ∧ V ≤ 1048576 := by simpa using p3
  have v0 : ¬ (V < 0) := by omega
  have v1 : ¬ (1048576 < V) := by omega
  clear v0_ v1_
  subst hK
  have z1 : (A == 0 && B == 0) = false := by rw [Bool.and_eq_false_iff, beq_eq_false_iff_ne, beq_eq_false_iff_ne]; omega
  go_enter Try.func53, Try.ntmps53
  go_wp2_with (first
    | (go_at_call 62; have q_ := T1; refine (xuser_any D U _).mono ?_; rw [p1]; rintro e w1 ⟨rfl, hc1⟩; have C1 := hid (C0.out.f hc1); have W1 := hid (W0.out.f hc1); have O1 := hid (HO.out.below C1.out); have x2_ := W1.out.c2; have x3_ := W1.out.c3; have x36_ := W1.out.c36; have x37_ := W1.out.c37; have x38_ := W1.out.c38; have x39_ := W1.out.c39; clear hc1 T1 q_)
    | (go_at_call 49; refine (HOP.out _ a L.length c L O1.out hc hn).mono ?_; rw [pc]; rintro e w3 ⟨rfl, hc3⟩; have C3 := hid (C1.out.f hc3); have W3 := hid (W1.out.f hc3); have y38_ := W3.out.c38; have y39_ := W3.out.c39; clear hc3)
    | (go_at_call 62; refine (xuser_any A B _).mono ?_; rw [p4]; rintro e w4 ⟨rfl, hc4⟩; have C3 := hid (C1.out.f hc4); clear hc4))
  go_ret
  exact ⟨by first | rfl | simp, C3.out⟩
set_option maxRecDepth 100000 in
set_option maxHeartbeats 2000000 in
theorem xcheck_kind (chk : List O3 → Int) (hop : Chk 49 chk) (D U I V : Int) (H : List UInt8) (K : Int) (L : List O3) (A B : Int) (w : World) (a : Option Addr) (c : Nat) (hH : H.length = 32) (hO : OpsAt w a L.length L) (hc : L.length ≤ c) (hn : L.length ≤ 300) (p1 : uOk D U = true) (p2 : (decide (0 ≤ I) && decide (I ≤ 1073741824)) = true) (p3 : (decide (0 ≤ V) && decide (V ≤ 1048576)) = true) (h1 : K ≠ 1) (h2 : K ≠ 2) (h3 : K ≠ 3) :
    Calls Try.prog 53 #[.agg (D40 D U I V H K (.slice a L.length c) A B)] w fun e w' => e = .returned (.int .i64 3) ∧ Ch (fun _ => False) w w' := by
  have W0 := hid (DAt.new (w := w) (D := D) (U := U) (I := I) (V := V) (K := K) (o := .slice a L.length c) (A := A) (B := B) hH)
  have C0 := hid ((Ch.refl (fun _ => False) w).alloc (.cells (D40 D U I V H K (.slice a L.length c) A B) 30))
  have HOP := hid hop
  have HO := hid hO
  have x0 := W0.out.c0
  have x1 := W0.out.c1
  have EQ := eq24
  clear hop hO
  have T1 := hid True.intro
  have T2 := hid True.intro
  obtain ⟨i0_, i1_⟩ : (0 ≤ I) ∧ I ≤ 1073741824 := by simpa using p2
  have i0 : ¬ (I < 0) := by omega
  have i1 : ¬ (1073741824 < I) := by omega
  clear i0_ i1_
  obtain ⟨v0_, v1_⟩ : (0 ≤ V) ∧ V ≤ 1048576 := by simpa using p3
  have v0 : ¬ (V < 0) := by omega
  have v1 : ¬ (1048576 < V) := by omega
  clear v0_ v1_
  have k1 : (K == 1) = false := beq_eq_false_iff_ne.2 (by omega)
  have k2 : (K == 2) = false := beq_eq_false_iff_ne.2 (by omega)
  have k3 : (K == 3) = false := beq_eq_false_iff_ne.2 (by omega)
  go_enter Try.func53, Try.ntmps53
  go_wp2_with (first
    | (go_at_call 62; have q_ := T1; refine (xuser_any D U _).mono ?_; rw [p1]; rintro e w1 ⟨rfl, hc1⟩; have C1 := hid (C0.out.f hc1); have W1 := hid (W0.out.f hc1); have O1 := hid (HO.out.below C1.out); have x2_ := W1.out.c2; have x3_ := W1.out.c3; have x36_ := W1.out.c36; have x37_ := W1.out.c37; have x38_ := W1.out.c38; have x39_ := W1.out.c39; clear hc1 T1 q_)
    | (go_at_call 49; refine (HOP.out _ a L.length c L O1.out hc hn).mono ?_; rw [pc]; rintro e w3 ⟨rfl, hc3⟩; have C3 := hid (C1.out.f hc3); have W3 := hid (W1.out.f hc3); have y38_ := W3.out.c38; have y39_ := W3.out.c39; clear hc3)
    | (go_at_call 62; refine (xuser_any A B _).mono ?_; rw [p4]; rintro e w4 ⟨rfl, hc4⟩; have C3 := hid (C1.out.f hc4); clear hc4))
  go_ret
  exact ⟨by first | rfl | simp, C1.out⟩
set_option maxRecDepth 100000 in
set_option maxHeartbeats 2000000 in
theorem xcheck_full2 (chk : List O3 → Int) (hop : Chk 49 chk) (D U I V : Int) (H : List UInt8) (K : Int) (L : List O3) (A B : Int) (w : World) (a : Option Addr) (c : Nat) (hH : H.length = 32) (hO : OpsAt w a L.length L) (hc : L.length ≤ c) (hn : L.length ≤ 300) (p1 : uOk D U = true) (p2 : (decide (0 ≤ I) && decide (I ≤ 1073741824)) = true) (p3 : (decide (0 ≤ V) && decide (V ≤ 1048576)) = true) (hK : K = 2) (hl : 0 < L.length) :
    Calls Try.prog 53 #[.agg (D40 D U I V H K (.slice a L.length c) A B)] w fun e w' => e = .returned (.int .i64 1) ∧ Ch (fun _ => False) w w' := by
  have W0 := hid (DAt.new (w := w) (D := D) (U := U) (I := I) (V := V) (K := K) (o := .slice a L.length c) (A := A) (B := B) hH)
  have C0 := hid ((Ch.refl (fun _ => False) w).alloc (.cells (D40 D U I V H K (.slice a L.length c) A B) 30))
  have HOP := hid hop
  have HO := hid hO
  have x0 := W0.out.c0
  have x1 := W0.out.c1
  have EQ := eq24
  clear hop hO
  have T1 := hid True.intro
  have T2 := hid True.intro
  obtain ⟨i0_, i1_⟩ : (0 ≤ I) ∧ I ≤ 1073741824 := by simpa using p2
  have i0 : ¬ (I < 0) := by omega
  have i1 : ¬ (1073741824 < I) := by omega
  clear i0_ i1_
  obtain ⟨v0_, v1_⟩ : (0 ≤ V) ∧ V ≤ 1048576 := by simpa using p3
  have v0 : ¬ (V < 0) := by omega
  have v1 : ¬ (1048576 < V) := by omega
  clear v0_ v1_
  subst hK
  have l0 : (0 : Int) < L.length := by omega
  go_enter Try.func53, Try.ntmps53
  go_wp2_with (first
    | (go_at_call 62; have q_ := T1; refine (xuser_any D U _).mono ?_; rw [p1]; rintro e w1 ⟨rfl, hc1⟩; have C1 := hid (C0.out.f hc1); have W1 := hid (W0.out.f hc1); have O1 := hid (HO.out.below C1.out); have x2_ := W1.out.c2; have x3_ := W1.out.c3; have x36_ := W1.out.c36; have x37_ := W1.out.c37; have x38_ := W1.out.c38; have x39_ := W1.out.c39; clear hc1 T1 q_)
    | (go_at_call 49; refine (HOP.out _ a L.length c L O1.out hc hn).mono ?_; rw [pc]; rintro e w3 ⟨rfl, hc3⟩; have C3 := hid (C1.out.f hc3); have W3 := hid (W1.out.f hc3); have y38_ := W3.out.c38; have y39_ := W3.out.c39; clear hc3)
    | (go_at_call 62; refine (xuser_any A B _).mono ?_; rw [p4]; rintro e w4 ⟨rfl, hc4⟩; have C3 := hid (C1.out.f hc4); clear hc4))
  go_ret
  exact ⟨by first | rfl | simp, C1.out⟩
set_option maxRecDepth 100000 in
set_option maxHeartbeats 2000000 in
theorem xcheck_add2true (chk : List O3 → Int) (hop : Chk 49 chk) (D U I V : Int) (H : List UInt8) (K : Int) (L : List O3) (A B : Int) (w : World) (a : Option Addr) (c : Nat) (hH : H.length = 32) (hO : OpsAt w a L.length L) (hc : L.length ≤ c) (hn : L.length ≤ 300) (p1 : uOk D U = true) (p2 : (decide (0 ≤ I) && decide (I ≤ 1073741824)) = true) (p3 : (decide (0 ≤ V) && decide (V ≤ 1048576)) = true) (hK : K = 2) (hl : L.length = 0) (p4 : uOk A B = true) :
    Calls Try.prog 53 #[.agg (D40 D U I V H K (.slice a L.length c) A B)] w fun e w' => e = .returned (.int .i64 0) ∧ Ch (fun _ => False) w w' := by
  have W0 := hid (DAt.new (w := w) (D := D) (U := U) (I := I) (V := V) (K := K) (o := .slice a L.length c) (A := A) (B := B) hH)
  have C0 := hid ((Ch.refl (fun _ => False) w).alloc (.cells (D40 D U I V H K (.slice a L.length c) A B) 30))
  have HOP := hid hop
  have HO := hid hO
  have x0 := W0.out.c0
  have x1 := W0.out.c1
  have EQ := eq24
  clear hop hO
  have T1 := hid True.intro
  have T2 := hid True.intro
  obtain ⟨i0_, i1_⟩ : (0 ≤ I) ∧ I ≤ 1073741824 := by simpa using p2
  have i0 : ¬ (I < 0) := by omega
  have i1 : ¬ (1073741824 < I) := by omega
  clear i0_ i1_
  obtain ⟨v0_, v1_⟩ : (0 ≤ V) ∧ V ≤ 1048576 := by simpa using p3
  have v0 : ¬ (V < 0) := by omega
  have v1 : ¬ (1048576 < V) := by omega
  clear v0_ v1_
  subst hK
  rw [hl] at *
  go_enter Try.func53, Try.ntmps53
  go_wp2_with (first
    | (go_at_call 62; have q_ := T1; refine (xuser_any D U _).mono ?_; rw [p1]; rintro e w1 ⟨rfl, hc1⟩; have C1 := hid (C0.out.f hc1); have W1 := hid (W0.out.f hc1); have O1 := hid (HO.out.below C1.out); have x2_ := W1.out.c2; have x3_ := W1.out.c3; have x36_ := W1.out.c36; have x37_ := W1.out.c37; have x38_ := W1.out.c38; have x39_ := W1.out.c39; clear hc1 T1 q_)
    | (go_at_call 49; refine (HOP.out _ a L.length c L O1.out hc hn).mono ?_; rw [pc]; rintro e w3 ⟨rfl, hc3⟩; have C3 := hid (C1.out.f hc3); have W3 := hid (W1.out.f hc3); have y38_ := W3.out.c38; have y39_ := W3.out.c39; clear hc3)
    | (go_at_call 62; refine (xuser_any A B _).mono ?_; rw [p4]; rintro e w4 ⟨rfl, hc4⟩; have C3 := hid (C1.out.f hc4); clear hc4))
  go_ret
  exact ⟨by first | rfl | simp, C3.out⟩
set_option maxRecDepth 100000 in
set_option maxHeartbeats 2000000 in
theorem xcheck_add2false (chk : List O3 → Int) (hop : Chk 49 chk) (D U I V : Int) (H : List UInt8) (K : Int) (L : List O3) (A B : Int) (w : World) (a : Option Addr) (c : Nat) (hH : H.length = 32) (hO : OpsAt w a L.length L) (hc : L.length ≤ c) (hn : L.length ≤ 300) (p1 : uOk D U = true) (p2 : (decide (0 ≤ I) && decide (I ≤ 1073741824)) = true) (p3 : (decide (0 ≤ V) && decide (V ≤ 1048576)) = true) (hK : K = 2) (hl : L.length = 0) (p4 : uOk A B = false) :
    Calls Try.prog 53 #[.agg (D40 D U I V H K (.slice a L.length c) A B)] w fun e w' => e = .returned (.int .i64 1) ∧ Ch (fun _ => False) w w' := by
  have W0 := hid (DAt.new (w := w) (D := D) (U := U) (I := I) (V := V) (K := K) (o := .slice a L.length c) (A := A) (B := B) hH)
  have C0 := hid ((Ch.refl (fun _ => False) w).alloc (.cells (D40 D U I V H K (.slice a L.length c) A B) 30))
  have HOP := hid hop
  have HO := hid hO
  have x0 := W0.out.c0
  have x1 := W0.out.c1
  have EQ := eq24
  clear hop hO
  have T1 := hid True.intro
  have T2 := hid True.intro
  obtain ⟨i0_, i1_⟩ : (0 ≤ I) ∧ I ≤ 1073741824 := by simpa using p2
  have i0 : ¬ (I < 0) := by omega
  have i1 : ¬ (1073741824 < I) := by omega
  clear i0_ i1_
  obtain ⟨v0_, v1_⟩ : (0 ≤ V) ∧ V ≤ 1048576 := by simpa using p3
  have v0 : ¬ (V < 0) := by omega
  have v1 : ¬ (1048576 < V) := by omega
  clear v0_ v1_
  subst hK
  rw [hl] at *
  go_enter Try.func53, Try.ntmps53
  go_wp2_with (first
    | (go_at_call 62; have q_ := T1; refine (xuser_any D U _).mono ?_; rw [p1]; rintro e w1 ⟨rfl, hc1⟩; have C1 := hid (C0.out.f hc1); have W1 := hid (W0.out.f hc1); have O1 := hid (HO.out.below C1.out); have x2_ := W1.out.c2; have x3_ := W1.out.c3; have x36_ := W1.out.c36; have x37_ := W1.out.c37; have x38_ := W1.out.c38; have x39_ := W1.out.c39; clear hc1 T1 q_)
    | (go_at_call 49; refine (HOP.out _ a L.length c L O1.out hc hn).mono ?_; rw [pc]; rintro e w3 ⟨rfl, hc3⟩; have C3 := hid (C1.out.f hc3); have W3 := hid (W1.out.f hc3); have y38_ := W3.out.c38; have y39_ := W3.out.c39; clear hc3)
    | (go_at_call 62; refine (xuser_any A B _).mono ?_; rw [p4]; rintro e w4 ⟨rfl, hc4⟩; have C3 := hid (C1.out.f hc4); clear hc4))
  go_ret
  exact ⟨by first | rfl | simp, C3.out⟩
set_option maxRecDepth 100000 in
set_option maxHeartbeats 2000000 in
theorem xcheck_full3 (chk : List O3 → Int) (hop : Chk 49 chk) (D U I V : Int) (H : List UInt8) (K : Int) (L : List O3) (A B : Int) (w : World) (a : Option Addr) (c : Nat) (hH : H.length = 32) (hO : OpsAt w a L.length L) (hc : L.length ≤ c) (hn : L.length ≤ 300) (p1 : uOk D U = true) (p2 : (decide (0 ≤ I) && decide (I ≤ 1073741824)) = true) (p3 : (decide (0 ≤ V) && decide (V ≤ 1048576)) = true) (hK : K = 3) (hl : 0 < L.length) :
    Calls Try.prog 53 #[.agg (D40 D U I V H K (.slice a L.length c) A B)] w fun e w' => e = .returned (.int .i64 1) ∧ Ch (fun _ => False) w w' := by
  have W0 := hid (DAt.new (w := w) (D := D) (U := U) (I := I) (V := V) (K := K) (o := .slice a L.length c) (A := A) (B := B) hH)
  have C0 := hid ((Ch.refl (fun _ => False) w).alloc (.cells (D40 D U I V H K (.slice a L.length c) A B) 30))
  have HOP := hid hop
  have HO := hid hO
  have x0 := W0.out.c0
  have x1 := W0.out.c1
  have EQ := eq24
  clear hop hO
  have T1 := hid True.intro
  have T2 := hid True.intro
  obtain ⟨i0_, i1_⟩ : (0 ≤ I) ∧ I ≤ 1073741824 := by simpa using p2
  have i0 : ¬ (I < 0) := by omega
  have i1 : ¬ (1073741824 < I) := by omega
  clear i0_ i1_
  obtain ⟨v0_, v1_⟩ : (0 ≤ V) ∧ V ≤ 1048576 := by simpa using p3
  have v0 : ¬ (V < 0) := by omega
  have v1 : ¬ (1048576 < V) := by omega
  clear v0_ v1_
  subst hK
  have l0 : (0 : Int) < L.length := by omega
  go_enter Try.func53, Try.ntmps53
  go_wp2_with (first
    | (go_at_call 62; have q_ := T1; refine (xuser_any D U _).mono ?_; rw [p1]; rintro e w1 ⟨rfl, hc1⟩; have C1 := hid (C0.out.f hc1); have W1 := hid (W0.out.f hc1); have O1 := hid (HO.out.below C1.out); have x2_ := W1.out.c2; have x3_ := W1.out.c3; have x36_ := W1.out.c36; have x37_ := W1.out.c37; have x38_ := W1.out.c38; have x39_ := W1.out.c39; clear hc1 T1 q_)
    | (go_at_call 49; refine (HOP.out _ a L.length c L O1.out hc hn).mono ?_; rw [pc]; rintro e w3 ⟨rfl, hc3⟩; have C3 := hid (C1.out.f hc3); have W3 := hid (W1.out.f hc3); have y38_ := W3.out.c38; have y39_ := W3.out.c39; clear hc3)
    | (go_at_call 62; refine (xuser_any A B _).mono ?_; rw [p4]; rintro e w4 ⟨rfl, hc4⟩; have C3 := hid (C1.out.f hc4); clear hc4))
  go_ret
  exact ⟨by first | rfl | simp, C1.out⟩
set_option maxRecDepth 100000 in
set_option maxHeartbeats 2000000 in
theorem xcheck_add3true (chk : List O3 → Int) (hop : Chk 49 chk) (D U I V : Int) (H : List UInt8) (K : Int) (L : List O3) (A B : Int) (w : World) (a : Option Addr) (c : Nat) (hH : H.length = 32) (hO : OpsAt w a L.length L) (hc : L.length ≤ c) (hn : L.length ≤ 300) (p1 : uOk D U = true) (p2 : (decide (0 ≤ I) && decide (I ≤ 1073741824)) = true) (p3 : (decide (0 ≤ V) && decide (V ≤ 1048576)) = true) (hK : K = 3) (hl : L.length = 0) (p4 : uOk A B = true) :
    Calls Try.prog 53 #[.agg (D40 D U I V H K (.slice a L.length c) A B)] w fun e w' => e = .returned (.int .i64 0) ∧ Ch (fun _ => False) w w' := by
  have W0 := hid (DAt.new (w := w) (D := D) (U := U) (I := I) (V := V) (K := K) (o := .slice a L.length c) (A := A) (B := B) hH)
  have C0 := hid ((Ch.refl (fun _ => False) w).alloc (.cells (D40 D U I V H K (.slice a L.length c) A B) 30))
  have HOP := hid hop
  have HO := hid hO
  have x0 := W0.out.c0
  have x1 := W0.out.c1
  have EQ := eq24
  clear hop hO
  have T1 := hid True.intro
  have T2 := hid True.intro
  obtain ⟨i0_, i1_⟩ : (0 ≤ I) ∧ I ≤ 1073741824 := by simpa using p2
  have i0 : ¬ (I < 0) := by omega
  have i1 : ¬ (1073741824 < I) := by omega
  clear i0_ i1_
  obtain ⟨v0_, v1_⟩ : (0 ≤ V) ∧ V ≤ 1048576 := by simpa using p3
  have v0 : ¬ (V < 0) := by omega
  have v1 : ¬ (1048576 < V) := by omega
  clear v0_ v1_
  subst hK
  rw [hl] at *
  go_enter Try.func53, Try.ntmps53
  go_wp2_with (first
    | (go_at_call 62; have q_ := T1; refine (xuser_any D U _).mono ?_; rw [p1]; rintro e w1 ⟨rfl, hc1⟩; have C1 := hid (C0.out.f hc1); have W1 := hid (W0.out.f hc1); have O1 := hid (HO.out.below C1.out); have x2_ := W1.out.c2; have x3_ := W1.out.c3; have x36_ := W1.out.c36; have x37_ := W1.out.c37; have x38_ := W1.out.c38; have x39_ := W1.out.c39; clear hc1 T1 q_)
    | (go_at_call 49; refine (HOP.out _ a L.length c L O1.out hc hn).mono ?_; rw [pc]; rintro e w3 ⟨rfl, hc3⟩; have C3 := hid (C1.out.f hc3); have W3 := hid (W1.out.f hc3); have y38_ := W3.out.c38; have y39_ := W3.out.c39; clear hc3)
    | (go_at_call 62; refine (xuser_any A B _).mono ?_; rw [p4]; rintro e w4 ⟨rfl, hc4⟩; have C3 := hid (C1.out.f hc4); clear hc4))
  go_ret
  exact ⟨by first | rfl | simp, C3.out⟩
set_option maxRecDepth 100000 in
set_option maxHeartbeats 2000000 in
theorem xcheck_add3false (chk : List O3 → Int) (hop : Chk 49 chk) (D U I V : Int) (H : List UInt8) (K : Int) (L : List O3) (A B : Int) (w : World) (a : Option Addr) (c : Nat) (hH : H.length = 32) (hO : OpsAt w a L.length L) (hc : L.length ≤ c) (hn : L.length ≤ 300) (p1 : uOk D U = true) (p2 : (decide (0 ≤ I) && decide (I ≤ 1073741824)) = true) (p3 : (decide (0 ≤ V) && decide (V ≤ 1048576)) = true) (hK : K = 3) (hl : L.length = 0) (p4 : uOk A B = false) :
    Calls Try.prog 53 #[.agg (D40 D U I V H K (.slice a L.length c) A B)] w fun e w' => e = .returned (.int .i64 1) ∧ Ch (fun _ => False) w w' := by
  have W0 := hid (DAt.new (w := w) (D := D) (U := U) (I := I) (V := V) (K := K) (o := .slice a L.length c) (A := A) (B := B) hH)
  have C0 := hid ((Ch.refl (fun _ => False) w).alloc (.cells (D40 D U I V H K (.slice a L.length c) A B) 30))
  have HOP := hid hop
  have HO := hid hO
  have x0 := W0.out.c0
  have x1 := W0.out.c1
  have EQ := eq24
  clear hop hO
  have T1 := hid True.intro
  have T2 := hid True.intro
  obtain ⟨i0_, i1_⟩ : (0 ≤ I) ∧ I ≤ 1073741824 := by simpa using p2
  have i0 : ¬ (I < 0) := by omega
  have i1 : ¬ (1073741824 < I) := by omega
  clear i0_ i1_
  obtain ⟨v0_, v1_⟩ : (0 ≤ V) ∧ V ≤ 1048576 := by simpa using p3
  have v0 : ¬ (V < 0) := by omega
  have v1 : ¬ (1048576 < V) := by omega
  clear v0_ v1_
  subst hK
  rw [hl] at *
  go_enter Try.func53, Try.ntmps53
  go_wp2_with (first
    | (go_at_call 62; have q_ := T1; refine (xuser_any D U _).mono ?_; rw [p1]; rintro e w1 ⟨rfl, hc1⟩; have C1 := hid (C0.out.f hc1); have W1 := hid (W0.out.f hc1); have O1 := hid (HO.out.below C1.out); have x2_ := W1.out.c2; have x3_ := W1.out.c3; have x36_ := W1.out.c36; have x37_ := W1.out.c37; have x38_ := W1.out.c38; have x39_ := W1.out.c39; clear hc1 T1 q_)
    | (go_at_call 49; refine (HOP.out _ a L.length c L O1.out hc hn).mono ?_; rw [pc]; rintro e w3 ⟨rfl, hc3⟩; have C3 := hid (C1.out.f hc3); have W3 := hid (W1.out.f hc3); have y38_ := W3.out.c38; have y39_ := W3.out.c39; clear hc3)
    | (go_at_call 62; refine (xuser_any A B _).mono ?_; rw [p4]; rintro e w4 ⟨rfl, hc4⟩; have C3 := hid (C1.out.f hc4); clear hc4))
  go_ret
  exact ⟨by first | rfl | simp, C3.out⟩
theorem xcheck_any (chk : List O3 → Int) (hop : Chk 49 chk) : DChk 53 chk := by
  rintro ⟨D, U, I, V, H, K, L, A, B⟩ w a c hH hO hc hn
  show Calls Try.prog _ #[.agg (D40 D U I V H K (.slice a L.length c) A B)] w _
  dsimp only at hH hO hc hn
  cases p1 : uOk D U with
  | false =>
    rw [show dck chk ⟨D, U, I, V, H, K, L, A, B⟩ = 1 from by unfold dck; rw [if_pos (.inl p1)]]
    exact xcheck_bad chk hop D U I V H K L A B w a c hH hO hc hn p1
  | true =>
    cases p2 : (decide (0 ≤ I) && decide (I ≤ 1073741824)) with
    | false =>
      rw [show dck chk ⟨D, U, I, V, H, K, L, A, B⟩ = 1 from by unfold dck; rw [if_pos (.inr (.inl (by simpa using p2)))]]
      exact xcheck_id chk hop D U I V H K L A B w a c hH hO hc hn p1 p2
    | true =>
      cases p3 : (decide (0 ≤ V) && decide (V ≤ 1048576)) with
      | false =>
        rw [show dck chk ⟨D, U, I, V, H, K, L, A, B⟩ = 1 from by unfold dck; rw [if_pos (.inr (.inr (by simpa using p3)))]]
        exact xcheck_ver chk hop D U I V H K L A B w a c hH hO hc hn p1 p2 p3
      | true =>
        have hg : ¬ (uOk D U = false ∨ ¬ (0 ≤ I ∧ I ≤ 1073741824) ∨ ¬ (0 ≤ V ∧ V ≤ 1048576)) := by
          simp only [Bool.and_eq_true, decide_eq_true_eq] at p2 p3
          rintro (h | h | h)
          · rw [p1] at h; simp at h
          · exact h p2
          · exact h p3
        by_cases k1 : K = 1
        · by_cases hz : chk L = 0
          · by_cases hA : A = 0 ∧ B = 0
            · rw [show dck chk ⟨D, U, I, V, H, K, L, A, B⟩ = 0 from by unfold dck; rw [if_neg hg, if_pos k1, if_neg (by simpa using hz), if_pos hA]]
              exact xcheck_own chk hop D U I V H K L A B w a c hH hO hc hn p1 p2 p3 k1 hz hA
            · rw [show dck chk ⟨D, U, I, V, H, K, L, A, B⟩ = 1 from by unfold dck; rw [if_neg hg, if_pos k1, if_neg (by simpa using hz), if_neg hA]]
              exact xcheck_who chk hop D U I V H K L A B w a c hH hO hc hn p1 p2 p3 k1 hz hA
          · rw [show dck chk ⟨D, U, I, V, H, K, L, A, B⟩ = chk L from by unfold dck; rw [if_neg hg, if_pos k1, if_pos hz]]
            exact xcheck_op chk hop D U I V H K L A B w a c hH hO hc hn p1 p2 p3 k1 _ rfl hz
        · by_cases k23 : K = 2 ∨ K = 3
          · by_cases hl : L.length = 0
            · cases p4 : uOk A B with
              | false =>
                rw [show dck chk ⟨D, U, I, V, H, K, L, A, B⟩ = 1 from by unfold dck; rw [if_neg hg, if_neg k1, if_pos k23, if_neg (by rw [p4]; simp)]]
                rcases k23 with k | k
                · exact xcheck_add2false chk hop D U I V H K L A B w a c hH hO hc hn p1 p2 p3 k hl p4
                · exact xcheck_add3false chk hop D U I V H K L A B w a c hH hO hc hn p1 p2 p3 k hl p4
              | true =>
                rw [show dck chk ⟨D, U, I, V, H, K, L, A, B⟩ = 0 from by unfold dck; rw [if_neg hg, if_neg k1, if_pos k23, if_pos ⟨hl, p4⟩]]
                rcases k23 with k | k
                · exact xcheck_add2true chk hop D U I V H K L A B w a c hH hO hc hn p1 p2 p3 k hl p4
                · exact xcheck_add3true chk hop D U I V H K L A B w a c hH hO hc hn p1 p2 p3 k hl p4
            · rw [show dck chk ⟨D, U, I, V, H, K, L, A, B⟩ = 1 from by unfold dck; rw [if_neg hg, if_neg k1, if_pos k23, if_neg (fun h => hl h.1)]]
              rcases k23 with k | k
              · exact xcheck_full2 chk hop D U I V H K L A B w a c hH hO hc hn p1 p2 p3 k (by omega)
              · exact xcheck_full3 chk hop D U I V H K L A B w a c hH hO hc hn p1 p2 p3 k (by omega)
          · rw [show dck chk ⟨D, U, I, V, H, K, L, A, B⟩ = 3 from by unfold dck; rw [if_neg hg, if_neg k1, if_neg k23]]
            exact xcheck_kind chk hop D U I V H K L A B w a c hH hO hc hn p1 p2 p3 k1 (fun h => k23 (.inl h)) (fun h => k23 (.inr h))
end Cd
end Go.Proofs.Ytpcgamgjgfdpaaa

namespace Go.Proofs.Ytpcgamgjgfdpaaa
namespace Cd
open Go.RowKit Go.Cx Go.OpM Go.Proofs.Ytpcgamgjgfdpaaa.Q Go.Proofs.YtpcgamgjgfdpaaaW.PrintWords Go.Proofs.YtpcgamgjgfdpaaaW.PrintLast Go.Proofs.YtpcgamgjgfdpaaaW.PrintMore
set_option linter.unusedVariables false
set_option linter.unusedSimpArgs false

theorem setCells_blk {g : Nat} {T : TypeId} {f : Nat × Nat} : ∀ (vs : List Value) (o : Nat) (cs : Array Value) (w : World), w.heap[g]? = some (.cells cs T f) → o + vs.length ≤ cs.size →
    (w.setCells g o vs).heap[g]? = some (.cells (cs.toList.take o ++ vs ++ cs.toList.drop (o + vs.length)).toArray T f)
  | [], o, cs, w, h, _ => by
    rw [World.setCells, h]
    simp
  | v :: vs, o, cs, w, h, hl => by
    simp only [List.length_cons] at hl
    rw [World.setCells, setCells_blk vs (o + 1) _ _ (set_blk h o v) (by simp; omega)]
    congr 3
    have ho : o < cs.toList.length := by simp; omega
    rw [Array.toList_setIfInBounds, List.take_succ_eq_append_getElem (by simpa using ho), List.getElem_set_self, List.take_set_of_le (Nat.le_refl _), List.drop_set_of_lt (by omega)]
    simp only [List.length_cons, List.append_assoc, List.cons_append, List.nil_append]
    rw [show o + 1 + vs.length = o + (vs.length + 1) by omega]
theorem setCells_ne {g k : Nat} (hne : g ≠ k) {x : Obj} : ∀ (vs : List Value) (o : Nat) (w : World), w.heap[k]? = some x → (w.setCells g o vs).heap[k]? = some x
  | [], o, w, h => by rw [World.setCells]; exact h
  | v :: vs, o, w, h => by
    rw [World.setCells]
    exact setCells_ne hne vs (o + 1) _ (set_blk_ne h o v hne)
theorem Ch.setCells {S : Nat → Prop} {a : World} {g : Nat} (hg : S g ∨ a.heap.size ≤ g) : ∀ (vs : List Value) (o : Nat) {b : World}, Ch S a b → Ch S a (b.setCells g o vs)
  | [], o, b, h => by rw [World.setCells]; exact h
  | v :: vs, o, b, h => by
    rw [World.setCells]
    exact Ch.setCells hg vs (o + 1) (h.set hg)
theorem D40_putH (D U I V : Int) (H : List UInt8) (K : Int) (o : Value) (A B : Int) (h : H.length = 32) :
    ((D40 D U I V (List.replicate 32 0) K o A B).toList.take 4 ++ bv H ++ (D40 D U I V (List.replicate 32 0) K o A B).toList.drop (4 + (bv H).length)).toArray = D40 D U I V H K o A B := by
  rw [bv_length, h]
  rfl
theorem D40_set2 (D U I V : Int) (H : List UInt8) (K I' : Int) (o : Value) (A B : Int) (h : H.length = 32) : (D40 D U I V H K o A B).setIfInBounds 2 (.int .i64 I') = D40 D U I' V H K o A B := by
  obtain ⟨h0, h1, h2, h3, h4, h5, h6, h7, h8, h9, h10, h11, h12, h13, h14, h15, h16, h17, h18, h19, h20, h21, h22, h23, h24, h25, h26, h27, h28, h29, h30, h31, rfl⟩ := len32 h
  rfl
theorem D40_set3 (D U I V : Int) (H : List UInt8) (K V' : Int) (o : Value) (A B : Int) (h : H.length = 32) : (D40 D U I V H K o A B).setIfInBounds 3 (.int .i64 V') = D40 D U I V' H K o A B := by
  obtain ⟨h0, h1, h2, h3, h4, h5, h6, h7, h8, h9, h10, h11, h12, h13, h14, h15, h16, h17, h18, h19, h20, h21, h22, h23, h24, h25, h26, h27, h28, h29, h30, h31, rfl⟩ := len32 h
  rfl
theorem DAt.there {w : World} {g : Nat} {D U I V : Int} {H : List UInt8} {K : Int} {o : Value} {A B : Int} (h : DAt w g D U I V H K o A B) {n : Nat} (hn : n = 32) : w.there g 4 n := by
  subst hn
  intro j hj
  refine ⟨?_, frozen_blk h.blk (4 + j)⟩
  rw [cell_blk h.blk (4 + j), Array.getElem?_eq_getElem (by rw [D40_size h.len]; omega)]
  rfl
theorem RX.small {w : World} {q : Nat} {a : Option Addr} {n c : Nat} {L l : List UInt8} {e : Int} (h : RX w q a n c L l e) (hL : n = L.length) (hn : n ≤ 1000000) : l.length ≤ 1000000 := by
  obtain ⟨P, h1, h2, _⟩ := h
  rw [← h2, List.length_drop]
  omega
set_option maxRecDepth 100000 in
set_option maxHeartbeats 8000000 in
theorem xdelta_parse (chk : List O3 → Int) (hop : Chk 49 chk) (hck : DChk 53 chk) (a : Option Addr) (n c : Nat) (b : List UInt8) (w : World) (h : Sl w 1 a n c (bv b)) (hn : n ≤ 1000000) :
    Calls Try.prog 25 #[.slice a n c] w (DPost w (parseD chk b)) := by
  have SS := hid (fun (w' : World) (h' : Ch (fun _ => False) w w') => h.ch h' (fun _ _ => id))
  have NL := hid (Sl_len h)
  have HOP := hid hop
  have HCK := hid hck
  clear h hop hck
  obtain ⟨D, l1, e1, h1⟩ : ∃ D l1 e1, rdI b 0 = (D, l1, e1) := ⟨_, _, _, rfl⟩
  obtain ⟨U, l2, e2, h2⟩ : ∃ U l2 e2, rdI l1 e1 = (U, l2, e2) := ⟨_, _, _, rfl⟩
  obtain ⟨I, l3, e3, h3⟩ : ∃ I l3 e3, rdI l2 e2 = (I, l3, e3) := ⟨_, _, _, rfl⟩
  obtain ⟨V, l4, e4, h4⟩ : ∃ V l4 e4, rdI l3 e3 = (V, l4, e4) := ⟨_, _, _, rfl⟩
  obtain ⟨H, l5, e5, h5⟩ : ∃ H l5 e5, rdH 32 l4 e4 = (H, l5, e5) := ⟨_, _, _, rfl⟩
  obtain ⟨K, l6, e6, h6⟩ : ∃ K l6 e6, rdB l5 e5 = (K, l6, e6) := ⟨_, _, _, rfl⟩
  obtain ⟨T, l7, e7, h7⟩ : ∃ T l7 e7, rdT l6 e6 = (T, l7, e7) := ⟨_, _, _, rfl⟩
  obtain ⟨A, l8, e8, h8⟩ : ∃ A l8 e8, rdI l7 e7 = (A, l8, e8) := ⟨_, _, _, rfl⟩
  obtain ⟨B, l9, e9, h9⟩ : ∃ B l9 e9, rdI l8 e8 = (B, l9, e9) := ⟨_, _, _, rfl⟩
  obtain ⟨E, hE⟩ : ∃ E, E = endOf l9 e9 := ⟨_, rfl⟩
  have RA := hid (show rdAll b = (⟨D, U, I, V, H, K, [], A, B⟩, T, E) by simp only [rdAll, h1, h2, h3, h4, h5, h6, h7, h8, h9, hE])
  have HL := hid (show H.length = 32 by have := rdH_len 32 l4 e4; rw [h5] at this; exact this)
  have E1 := hid h1
  have E2 := hid h2
  have E3 := hid h3
  have E4 := hid h4
  have E5 := hid h5
  have E6 := hid h6
  have E7 := hid h7
  have E8 := hid h8
  have E9 := hid h9
  have EE := hid hE
  clear h1 h2 h3 h4 h5 h6 h7 h8 h9 hE
  go_enter Try.func25, Try.ntmps25
  go_upto_region 0 with (fail)
  go_cut [2, 3] (fun v2 v3 wc => ∃ (g0 : Nat) (old : Array Value), v2 = .pointer (some ⟨g0, 0, none⟩) ∧ v3 = .int .i64 0 ∧ old.size = 40 ∧ w.heap.size ≤ g0 ∧ g0 < wc.heap.size ∧ Hid (wc.heap[g0]? = some (.cells old 30 (0, 0))) ∧ Hid (Ch (fun _ => False) w wc))
  case first =>
    go_wp2
    go_meet
    case rel => exact ⟨w.heap.size, _, rfl, rfl, by rfl, by omega, by simp, hid (alloc_blk_new _ rfl), hid ((Ch.refl _ _).alloc _)⟩
  case rest =>
    obtain ⟨g0, old, rfl, rfl, hold, hb0, hl0, O0, C0⟩ := hcut
    go_upto_region 2 with (go_at_call 43; refine (xnew_any a n c _).mono ?_; rintro e w1 ⟨q, rfl, hr, hq, hc⟩; have R1 := hid (show RX w1 q a n c b b 0 from ⟨0, Nat.zero_le _, rfl, hr⟩); have C1 := hid (C0.out.f hc); have PP := hid hq; have O1 := hid (hc.heap O0.out id); clear hr hq hc)
    have pw : w.heap.size ≤ q := Nat.le_trans C0.out.size PP.out
    have g0p : g0 < q := Nat.lt_of_lt_of_le hl0 PP.out
    clear O0 C0 PP hl0
    go_cut [5] (fun v5 wd => ∃ (g5 : Nat), v5 = .pointer (some ⟨g5, 0, none⟩) ∧ Hid (q < g5) ∧ Hid (DAt wd g5 D U 0 0 (List.replicate 32 0) 0 (.slice none 0 0) 0 0) ∧ Hid (RX wd q a n c b l2 e2) ∧ Hid (wd.heap[g0]? = some (.cells old 30 (0, 0))) ∧ Hid (Ch (fun _ => False) w wd))
    case first =>
      go_wp2_with (first
        | (go_at_call 51; refine (xaddr_any q a n c b b l1 l2 0 e1 e2 D U _ R1.out hn NL.out (fun w' h' => SS.out w' (C1.out.far1 h' pw)) E1.out E2.out).mono ?_; rintro e w2 ⟨rfl, hr, hc⟩; have R2 := hid hr; have O2 := hid (hc.heap O1.out (show ¬ g0 = q by omega)); have C2 := hid (C1.out.far1 hc pw); clear hr hc)
        | (refine wpList_store_row rfl 30 _ _ rfl _ (D40 D U 0 0 (List.replicate 32 0) 0 (.slice none 0 0) 0 0) rfl (by rfl) 30 _ (heap_alloc_last _ _) (by rw [D40_size (by simp)]; exact sz40) (by rw [D40_size (by simp)]; rfl) (D40_one rfl) ?_; rw [World.setRow_alloc_new]))
      go_meet
      case rel => exact ⟨w2.heap.size, rfl, hid R2.out.lt, hid (DAt.new (by simp)), hid (R2.out.ch ((Ch.refl (fun _ => False) _).alloc _) id), hid (((Ch.refl (fun _ => False) _).alloc _).heap O2.out id), hid (C2.out.alloc _)⟩
    case rest =>
      obtain ⟨g5, rfl, PG, X, R, O, C⟩ := hcut
      have pg := PG.out
      have n50 : g5 ≠ g0 := by omega
      have pw5 : w.heap.size ≤ g5 := by omega
      clear R1 C1 O1 PG
      go_upto_region 3 with (fail)
      go_cut [] (fun wd => Hid (DAt wd g5 D U I 0 (List.replicate 32 0) 0 (.slice none 0 0) 0 0) ∧ Hid (RX wd q a n c b l3 e3) ∧ Hid (wd.heap[g0]? = some (.cells old 30 (0, 0))) ∧ Hid (Ch (fun _ => False) w wd))
      case first =>
        go_wp2_with (first
          | (go_at_call 46; refine (xi_any q a n c b _ _ _ R.out hn NL.out (fun w' h' => SS.out w' (C.out.far1 h' pw))).mono ?_; rw [E3.out]; rintro e_ w2 ⟨rfl, hr, hc⟩; have R2 := hid hr; have X2 := hid (X.out.ch hc (show ¬ g5 = q by omega)); have O2 := hid (hc.heap O.out (show ¬ g0 = q by omega)); have C2 := hid (C.out.far1 hc pw); have cc := X2.out.c2; have ff := frozen_blk X2.out.blk 2; clear hr hc))
        go_meet
        case rel => exact ⟨hid ⟨(set_blk X2.out.blk 2 _).trans (by rw [D40_set2 _ _ _ _ _ _ _ _ _ _ X2.out.len]), X2.out.len⟩, hid (R2.out.ch ((Ch.refl (fun i => i = g5) _).set (.inl rfl)) (by omega)), hid (set_blk_ne O2.out _ _ n50), hid (C2.out.set (.inr pw5))⟩
      case rest =>
        clear X R O C
        obtain ⟨X, R, O, C⟩ := hcut
        go_upto_region 4 with (fail)
        go_cut [] (fun wd => Hid (DAt wd g5 D U I V (List.replicate 32 0) 0 (.slice none 0 0) 0 0) ∧ Hid (RX wd q a n c b l4 e4) ∧ Hid (wd.heap[g0]? = some (.cells old 30 (0, 0))) ∧ Hid (Ch (fun _ => False) w wd))
        case first =>
          go_wp2_with (first
            | (go_at_call 46; refine (xi_any q a n c b _ _ _ R.out hn NL.out (fun w' h' => SS.out w' (C.out.far1 h' pw))).mono ?_; rw [E4.out]; rintro e_ w2 ⟨rfl, hr, hc⟩; have R2 := hid hr; have X2 := hid (X.out.ch hc (show ¬ g5 = q by omega)); have O2 := hid (hc.heap O.out (show ¬ g0 = q by omega)); have C2 := hid (C.out.far1 hc pw); have cc := X2.out.c3; have ff := frozen_blk X2.out.blk 3; clear hr hc))
          go_meet
          case rel => exact ⟨hid ⟨(set_blk X2.out.blk 3 _).trans (by rw [D40_set3 _ _ _ _ _ _ _ _ _ _ X2.out.len]), X2.out.len⟩, hid (R2.out.ch ((Ch.refl (fun i => i = g5) _).set (.inl rfl)) (by omega)), hid (set_blk_ne O2.out _ _ n50), hid (C2.out.set (.inr pw5))⟩
        case rest =>
          clear X R O C
          obtain ⟨X, R, O, C⟩ := hcut
          go_upto_region 5 with (fail)
          go_cut [] (fun wd => Hid (DAt wd g5 D U I V H 0 (.slice none 0 0) 0 0) ∧ Hid (RX wd q a n c b l5 e5) ∧ Hid (wd.heap[g0]? = some (.cells old 30 (0, 0))) ∧ Hid (Ch (fun _ => False) w wd))
          case first =>
            go_wp2_with (first
              | (go_at_call 52; refine (xhash_any q a n c b _ _ _ _ _ _ R.out hn NL.out (fun w' h' => SS.out w' (C.out.far1 h' pw)) E5.out).mono ?_; rintro e_ w2 ⟨rfl, hr, hc⟩; have R2 := hid hr; have X2 := hid (X.out.ch hc (show ¬ g5 = q by omega)); have O2 := hid (hc.heap O.out (show ¬ g0 = q by omega)); have C2 := hid (C.out.far1 hc pw); clear hr hc)
              | (refine wpList_store_mid rfl 26 _ _ rfl g5 4 (bv H).toArray rfl rfl (X2.out.there (by simp [bv, HL.out])) (bv_size _ HL.out) (bv_one32 _) ?_))
            go_meet
            case rel => exact ⟨hid ⟨(setCells_blk (bv H) 4 _ _ X2.out.blk (by rw [bv_length, HL.out, D40_size (by simp)]; omega)).trans (by rw [D40_putH _ _ _ _ _ _ _ _ _ HL.out]), HL.out⟩, hid (R2.out.ch (Ch.setCells (S := fun i => i = g5) (.inl rfl) _ _ (Ch.refl _ _)) (by omega)), hid (setCells_ne n50 _ _ _ O2.out), hid (Ch.setCells (.inr pw5) _ _ C2.out)⟩
          case rest =>
            clear X R O C
            obtain ⟨X, R, O, C⟩ := hcut
            go_upto_region 6 with (fail)
            go_cut [] (fun wd => Hid (DAt wd g5 D U I V H K (.slice none 0 0) 0 0) ∧ Hid (RX wd q a n c b l6 e6) ∧ Hid (wd.heap[g0]? = some (.cells old 30 (0, 0))) ∧ Hid (Ch (fun _ => False) w wd))
            case first =>
              go_wp2_with (first
                | (go_at_call 44; refine (xb_any q a n c b _ _ _ R.out hn NL.out (fun w' h' => SS.out w' (C.out.far1 h' pw))).mono ?_; rw [E6.out]; rintro e_ w2 ⟨rfl, hr, hc⟩; have R2 := hid hr; have X2 := hid (X.out.ch hc (show ¬ g5 = q by omega)); have O2 := hid (hc.heap O.out (show ¬ g0 = q by omega)); have C2 := hid (C.out.far1 hc pw); have cc := X2.out.c36; have ff := frozen_blk X2.out.blk 36; clear hr hc))
              go_meet
              case rel => exact ⟨hid ⟨(set_blk X2.out.blk 36 _).trans (by rw [D40_set36 _ _ _ _ _ _ _ _ _ _ X2.out.len]), X2.out.len⟩, hid (R2.out.ch ((Ch.refl (fun i => i = g5) _).set (.inl rfl)) (by omega)), hid (set_blk_ne O2.out _ _ n50), hid (C2.out.set (.inr pw5))⟩
            case rest =>
              clear X R O C
              obtain ⟨X, R, O, C⟩ := hcut
              have T6 := hid (show T.length ≤ 1000000 by have := rdT_le l6 e6; rw [E7.out] at this; dsimp only at this; have := R.out.small NL.out hn; omega)
              go_upto_region 8 with (go_at_call 47; refine (xt_any q a n c b _ _ _ R.out hn NL.out (fun w' h' => SS.out w' (C.out.far1 h' pw))).mono ?_; rw [E7.out]; rintro e_ w7 ⟨rfl, hr, hc⟩; have R7 := hid hr; have X7 := hid (X.out.ch hc (show ¬ g5 = q by omega)); have O7 := hid (hc.heap O.out (show ¬ g0 = q by omega)); have C7 := hid (C.out.far1 hc pw); clear hr hc)
              go_cut [] (fun wd => Hid (DAt wd g5 D U I V H K (.slice none 0 0) A B) ∧ Hid (RX wd q a n c b l9 e9) ∧ Hid (wd.heap[g0]? = some (.cells old 30 (0, 0))) ∧ Hid (Ch (fun _ => False) w wd))
              case first =>
                go_wp2_with (go_at_call 51; refine (xaddr_any q a n c b _ _ _ _ _ _ _ _ _ R7.out hn NL.out (fun w' h' => SS.out w' (C7.out.far1 h' pw)) E8.out E9.out).mono ?_; rintro e w9 ⟨rfl, hr, hc⟩; have R9 := hid hr; have X9 := hid (X7.out.ch hc (show ¬ g5 = q by omega)); have O9 := hid (hc.heap O7.out (show ¬ g0 = q by omega)); have C9 := hid (C7.out.far1 hc pw); have c38 := X9.out.c38; have c39 := X9.out.c39; have f38 := frozen_blk X9.out.blk 38; have f39 := frozen_blk X9.out.blk 39; clear hr hc)
                go_meet
                case rel => exact ⟨hid ⟨(set_blk (set_blk X9.out.blk 38 _) 39 _).trans (by rw [D40_set38 _ _ _ _ _ _ _ _ _ _ HL.out, D40_set39 _ _ _ _ _ _ _ _ _ _ HL.out]), HL.out⟩, hid (R9.out.ch (((Ch.refl (fun i => i = g5) _).set (.inl rfl)).set (.inl rfl)) (by omega)), hid (set_blk_ne (set_blk_ne O9.out _ _ n50) _ _ n50), hid ((C9.out.set (.inr pw5)).set (.inr pw5))⟩
              case rest =>
                clear X R O C R7 X7 O7 C7
                obtain ⟨X, R, O, C⟩ := hcut
                go_upto_region 10 with (go_at_call 48; refine (xe_any q a n c b _ _ _ R.out NL.out).mono ?_; rw [← EE.out]; rintro e w8 ⟨rfl, hr, hc⟩; have X5 := hid (X.out.ch hc (show ¬ g5 = q by omega)); have O5 := hid (hc.heap O.out (show ¬ g0 = q by omega)); have CC := hid (C.out.far1 hc pw); clear hr hc)
                clear X R O C E1 E2 E3 E4 E5 E6 E7 E8 E9
                have TB := to_bytes T
                have hT := T6.out
                by_cases hE : E = 0
                · obtain ⟨L, e10, hp⟩ : ∃ L e10, parse chk T = (L, e10) := ⟨_, _, rfl⟩
                  have PA := hid hp
                  have L40 : L.length ≤ 40 := by have := parse_len chk T; rw [hp] at this; exact this
                  clear hp
                  subst hE
                  by_cases h10 : e10 = 0
                  · subst h10
                    obtain ⟨r, hr⟩ : ∃ r, dck chk ⟨D, U, I, V, H, K, L, A, B⟩ = r := ⟨_, rfl⟩
                    have DK := hr
                    by_cases hr0 : r = 0
                    · subst hr0
                      have PR := hid (show parseD chk b = (⟨D, U, I, V, H, K, L, A, B⟩, 0) by simp [parseD, RA.out, PA.out, hr])
                      clear hr
                      go_wp2_with (first
                        | (go_at_call 20; refine (xparse_any chk HOP.out _ _ _ T _ (Sl.bytesWorld w8 5 T (by unfold maxLen; omega)) (by omega)).mono ?_; rw [show PPost _ (parse chk T) = PPost _ (L, 0) from by rw [PA.out]]; rintro e w9 ⟨a9, c9, rfl, ho9, hc9⟩; have hc9' := (Ch.bytesWorld w8 5 (str T)).f hc9; have O9 := hid (hc9'.heap O5.out id); have X9 := hid (X5.out.f hc9'); have C9 := hid (CC.out.f hc9'); have Q9 := hid (OpsAt.own rfl ho9); have N9 := hid (fun x hx => Nat.le_trans (Ch.bytesWorld w8 5 (str T)).size (ho9.block x hx).1); have hcc9 := ho9.sl.2.1; have c37 := X9.out.c37; have f37 := frozen_blk X9.out.blk 37; clear hc9 hc9' ho9)
                        | (refine wpList_load_row rfl 30 _ rfl g5 rfl 30 (D40 D U I V H K (.slice a9 L.length c9) A B) (0, 0) _ ((set_blk X9.out.blk 37 _).trans (by rw [D40_set37 _ _ _ _ _ _ _ _ _ _ HL.out])) Try.underlying30 rfl (by rw [D40_size HL.out]; exact sz40) ?_)
                        | (go_at_call 53; refine (HCK.out ⟨D, U, I, V, H, K, L, A, B⟩ _ a9 c9 HL.out (Q9.out.chS ((Ch.refl (fun k => k = g5) _).set (.inl rfl)) (fun b hb _ he => absurd (show b.block = g5 from he) (by have h1_ := N9.out b hb; have h2_ := lt_of_block X5.out.blk; omega))) hcc9 (show L.length ≤ 300 by omega)).mono ?_; rw [DK]; rintro e w10 ⟨rfl, hc10⟩; have O10 := hid (hc10.heap (set_blk_ne O9.out 37 _ n50) id); have X10 := hid (show DAt w10 g5 D U I V H K (.slice a9 L.length c9) A B from ⟨hc10.heap ((set_blk X9.out.blk 37 _).trans (by rw [D40_set37 _ _ _ _ _ _ _ _ _ _ HL.out])) id, HL.out⟩); have C10 := hid ((C9.out.set (.inr pw5)).f hc10); have Q10 := hid ((Q9.out.chS ((Ch.refl (fun k => k = g5) _).set (.inl rfl)) (fun b hb _ he => absurd (show b.block = g5 from he) (by have h1_ := N9.out b hb; have h2_ := lt_of_block X5.out.blk; omega))).below hc10); clear hc10)
                        | (refine wpList_load_row rfl 30 _ rfl g5 rfl 30 (D40 D U I V H K (.slice a9 L.length c9) A B) (0, 0) _ X10.out.blk Try.underlying30 rfl (by rw [D40_size HL.out]; exact sz40) ?_)
                        | (refine wpList_store_row rfl 30 _ _ rfl g0 (D40 D U I V H K (.slice a9 L.length c9) A B) rfl rfl 30 _ O10.out (by rw [D40_size HL.out]; exact sz40) (by rw [D40_size HL.out]; exact hold) (D40_one rfl) ?_))
                      refine bodyPost_ret (results_cell_tmp rfl _ _ g0 30 (D40 D U I V H K (.slice a9 L.length c9) A B) (0, 0) _ rfl (setRow_blk O10.out) Try.underlying30 rfl (by rw [D40_size HL.out]; exact sz40)) rfl ?_
                      rw [PR.out]
                      exact ⟨a9, c9, rfl, HL.out, Q10.out.chS ((Ch.refl (fun k => k = g0) _).setRow _ (.inl rfl)) (fun b hb _ he => absurd (show b.block = g0 from he) (by have h1_ := N9.out b hb; have h2_ := lt_of_block O5.out; omega)), hcc9, (fun b hb => Nat.le_trans CC.out.size (N9.out b hb)), C10.out.setRow _ (.inr hb0)⟩
                    · have rb : (r == 0) = false := beq_eq_false_iff_ne.2 hr0
                      have PR := hid (show parseD chk b = (DV.zero, r) by simp [parseD, RA.out, PA.out, hr, hr0])
                      clear hr hr0
                      go_wp2_with (first
                        | (go_at_call 20; refine (xparse_any chk HOP.out _ _ _ T _ (Sl.bytesWorld w8 5 T (by unfold maxLen; omega)) (by omega)).mono ?_; rw [show PPost _ (parse chk T) = PPost _ (L, 0) from by rw [PA.out]]; rintro e w9 ⟨a9, c9, rfl, ho9, hc9⟩; have hc9' := (Ch.bytesWorld w8 5 (str T)).f hc9; have O9 := hid (hc9'.heap O5.out id); have X9 := hid (X5.out.f hc9'); have C9 := hid (CC.out.f hc9'); have Q9 := hid (OpsAt.own rfl ho9); have N9 := hid (fun x hx => Nat.le_trans (Ch.bytesWorld w8 5 (str T)).size (ho9.block x hx).1); have hcc9 := ho9.sl.2.1; have c37 := X9.out.c37; have f37 := frozen_blk X9.out.blk 37; clear hc9 hc9' ho9)
                        | (refine wpList_load_row rfl 30 _ rfl g5 rfl 30 (D40 D U I V H K (.slice a9 L.length c9) A B) (0, 0) _ ((set_blk X9.out.blk 37 _).trans (by rw [D40_set37 _ _ _ _ _ _ _ _ _ _ HL.out])) Try.underlying30 rfl (by rw [D40_size HL.out]; exact sz40) ?_)
                        | (go_at_call 53; refine (HCK.out ⟨D, U, I, V, H, K, L, A, B⟩ _ a9 c9 HL.out (Q9.out.chS ((Ch.refl (fun k => k = g5) _).set (.inl rfl)) (fun b hb _ he => absurd (show b.block = g5 from he) (by have h1_ := N9.out b hb; have h2_ := lt_of_block X5.out.blk; omega))) hcc9 (show L.length ≤ 300 by omega)).mono ?_; rw [DK]; rintro e w10 ⟨rfl, hc10⟩; have O10 := hid (hc10.heap (set_blk_ne O9.out 37 _ n50) id); have X10 := hid (show DAt w10 g5 D U I V H K (.slice a9 L.length c9) A B from ⟨hc10.heap ((set_blk X9.out.blk 37 _).trans (by rw [D40_set37 _ _ _ _ _ _ _ _ _ _ HL.out])) id, HL.out⟩); have C10 := hid ((C9.out.set (.inr pw5)).f hc10); have Q10 := hid ((Q9.out.chS ((Ch.refl (fun k => k = g5) _).set (.inl rfl)) (fun b hb _ he => absurd (show b.block = g5 from he) (by have h1_ := N9.out b hb; have h2_ := lt_of_block X5.out.blk; omega))).below hc10); clear hc10)
                        | (refine wpList_store_row rfl 30 _ _ rfl g0 (D40 0 0 0 0 (List.replicate 32 0) 0 (.slice none 0 0) 0 0) rfl (by rfl) 30 _ O10.out (by rw [D40_size (by simp)]; exact sz40) (by rw [D40_size (by simp)]; exact hold) (D40_one rfl) ?_))
                      refine bodyPost_ret (results_cell_tmp rfl _ _ g0 30 (D40 0 0 0 0 (List.replicate 32 0) 0 (.slice none 0 0) 0 0) (0, 0) _ rfl (setRow_blk O10.out) Try.underlying30 rfl (by rw [D40_size (by simp)]; exact sz40)) rfl ?_
                      rw [PR.out]
                      exact ⟨none, 0, rfl, by simp [DV.zero], ⟨rfl, fun h => absurd h (Nat.lt_irrefl _), fun b hb => by cases hb⟩, Nat.le_refl _, (fun b hb => by cases hb), (C10.out).setRow _ (.inr hb0)⟩
                  · have rb : (e10 == 0) = false := beq_eq_false_iff_ne.2 h10
                    have PR := hid (show parseD chk b = (DV.zero, e10) by simp [parseD, RA.out, PA.out, h10])
                    clear h10
                    go_wp2_with (first
                      | (go_at_call 20; refine (xparse_any chk HOP.out _ _ _ T _ (Sl.bytesWorld w8 5 T (by unfold maxLen; omega)) (by omega)).mono ?_; rw [show PPost _ (parse chk T) = PPost _ (L, e10) from by rw [PA.out]]; rintro e w9 ⟨a9, c9, rfl, ho9, hc9⟩; have hc9' := (Ch.bytesWorld w8 5 (str T)).f hc9; have O9 := hid (hc9'.heap O5.out id); have X9 := hid (X5.out.f hc9'); have C9 := hid (CC.out.f hc9'); have Q9 := hid (OpsAt.own rfl ho9); have N9 := hid (fun x hx => Nat.le_trans (Ch.bytesWorld w8 5 (str T)).size (ho9.block x hx).1); have hcc9 := ho9.sl.2.1; have c37 := X9.out.c37; have f37 := frozen_blk X9.out.blk 37; clear hc9 hc9' ho9)
                      | (refine wpList_store_row rfl 30 _ _ rfl g0 (D40 0 0 0 0 (List.replicate 32 0) 0 (.slice none 0 0) 0 0) rfl (by rfl) 30 _ (set_blk_ne O9.out 37 _ n50) (by rw [D40_size (by simp)]; exact sz40) (by rw [D40_size (by simp)]; exact hold) (D40_one rfl) ?_))
                    refine bodyPost_ret (results_cell_tmp rfl _ _ g0 30 (D40 0 0 0 0 (List.replicate 32 0) 0 (.slice none 0 0) 0 0) (0, 0) _ rfl (setRow_blk (set_blk_ne O9.out 37 _ n50)) Try.underlying30 rfl (by rw [D40_size (by simp)]; exact sz40)) rfl ?_
                    rw [PR.out]
                    exact ⟨none, 0, rfl, by simp [DV.zero], ⟨rfl, fun h => absurd h (Nat.lt_irrefl _), fun b hb => by cases hb⟩, Nat.le_refl _, (fun b hb => by cases hb), ((C9.out.set (.inr pw5))).setRow _ (.inr hb0)⟩
                · have rb : (E == 0) = false := beq_eq_false_iff_ne.2 hE
                  have PR := hid (show parseD chk b = (DV.zero, E) by simp [parseD, RA.out, hE])
                  clear hE
                  go_wp2_with (first
                    | (refine wpList_store_row rfl 30 _ _ rfl g0 (D40 0 0 0 0 (List.replicate 32 0) 0 (.slice none 0 0) 0 0) rfl (by rfl) 30 _ O5.out (by rw [D40_size (by simp)]; exact sz40) (by rw [D40_size (by simp)]; exact hold) (D40_one rfl) ?_))
                  refine bodyPost_ret (results_cell_tmp rfl _ _ g0 30 (D40 0 0 0 0 (List.replicate 32 0) 0 (.slice none 0 0) 0 0) (0, 0) _ rfl (setRow_blk O5.out) Try.underlying30 rfl (by rw [D40_size (by simp)]; exact sz40)) rfl ?_
                  rw [PR.out]
                  exact ⟨none, 0, rfl, by simp [DV.zero], ⟨rfl, fun h => absurd h (Nat.lt_irrefl _), fun b hb => by cases hb⟩, Nat.le_refl _, (fun b hb => by cases hb), (CC.out).setRow _ (.inr hb0)⟩
end Cd
end Go.Proofs.Ytpcgamgjgfdpaaa

namespace Go.Proofs.Ytpcgamgjgfdpaaa
namespace Cd
open Go.RowKit Go.Cx Go.OpM Go.Proofs.Ytpcgamgjgfdpaaa.Q Go.Proofs.YtpcgamgjgfdpaaaW.PrintWords Go.Proofs.YtpcgamgjgfdpaaaW.PrintLast Go.Proofs.YtpcgamgjgfdpaaaW.PrintMore
set_option linter.unusedVariables false
set_option linter.unusedSimpArgs false

theorem part_u8 (H : List UInt8) (i : Nat) (hi : i < H.length) (w : World) : (part 5 (bv H).toArray (i * 1)).run Try.prog w = .ok (.int .u8 ((H[i]).toNat : Int)) w := by
  have h1 : (bv H).toArray[i]? = some (.int .u8 ((H[i]).toNat : Int)) := by
    rw [List.getElem?_toArray]
    unfold bv
    rw [List.getElem?_map, List.getElem?_eq_getElem hi]
    rfl
  have e1 : i * 1 = i := Nat.mul_one i
  rw [e1]
  unfold part
  go_simp
theorem eqItems_self (H : List UInt8) (d : Nat) (w : World) : ∀ is : List Nat, (∀ i ∈ is, i < H.length) → (Op.eqItems (d + 1) 5 1 (bv H).toArray (bv H).toArray is).run Try.prog w = .ok true w
  | [], _ => by simp [Op.eqItems]
  | i :: is, h => by
    have hp := part_u8 H i (h i (List.mem_cons_self ..)) w
    simp only [Op.eqItems, Sem.run_bind, hp, Result.andThen_ok, run_equalIn_int w d 5 .u8 .u8 _ _ Try.underlying5]
    simpa using eqItems_self H d w is (fun j hj => h j (List.mem_cons_of_mem _ hj))
theorem eq26 (H : List UInt8) (hH : H.length = 32) (d : Nat) (w : World) : (Op.equalIn (d + 2) 26 (.agg (bv H).toArray) (.agg (bv H).toArray)).run Try.prog w = .ok true w := by
  obtain ⟨i, hi, hs⟩ : ∃ i, Try.prog.info? 5 = some i ∧ i.size = 1 := by
    have h : (Try.prog.info? 5).map (·.size) = some 1 := by kernel_rfl
    cases hq : Try.prog.info? 5 with
    | none => rw [hq] at h; simp at h
    | some i => rw [hq] at h; exact ⟨i, rfl, by simpa using h⟩
  rw [run_equalIn_array w (d + 1) _ _ Try.underlying26 hi, show Try.prog.cellsOf 5 = 1 from by kernel_rfl]
  exact eqItems_self H d w _ (fun i hi => by rw [hH]; exact List.mem_range.1 hi)
set_option maxRecDepth 100000 in
set_option maxHeartbeats 2000000 in
theorem equal_any (w : World) (a b : Option Addr) (n c d : Nat) (l : List O3) (h : OpsAt w a n l) (h2 : OpsAt w b n l) (hc : n ≤ c) (hd : n ≤ d) (hn : n ≤ 1000) :
    Calls Try.prog 61 #[.slice a n c, .slice b n d] w (True_ w) := by
  have HA := hid h
  have HB := hid h2
  have HL := hid h.1
  have EQ := eqA34
  clear h h2
  go_enter Try.func61, Try.ntmps61
  go_wp2
  go_loopg [5, 13] n (fun g v5 vi wr => ∃ i : Nat, i + g = n ∧ vi = .int .i64 i ∧ Hid (Ch (fun _ => False) w wr))
  case atStart => exact ⟨0, by omega, rfl, hid (Ch.refl _ _)⟩
  case round =>
    obtain ⟨i, hig, rfl, C⟩ := hrel
    by_cases hlt : i < n
    · obtain ⟨x, hx⟩ : ∃ x, l[i]? = some x := ⟨_, List.getElem?_eq_getElem (by rw [HL.out]; exact hlt)⟩
      obtain ⟨B0, o0, rfl⟩ := HA.out.spot (by omega)
      obtain ⟨B1, o1, rfl⟩ := HB.out.spot (by omega)
      obtain ⟨p1, p2, p3⟩ := (HA.out.below C.out).at_ hx
      obtain ⟨r1, r2, r3⟩ := (HB.out.below C.out).at_ hx
      have hlti : (i : Int) < n := by omega
      have i0 : (0 : Int) ≤ i := by omega
      go_upto_region 6 with (fail)
      go_quiet (fail)
      go_wp2
      go_roundg (n - (i + 1))
      case measure => omega
      case rel => exact ⟨i + 1, by omega, by go_num, hid (C.out.drewN _)⟩
    · obtain rfl : i = n := by omega
      have hlti : ¬ (i : Int) < i := by omega
      go_wp2
      go_ret
      exact ⟨rfl, C.out⟩
set_option maxRecDepth 100000 in
set_option maxHeartbeats 2000000 in
theorem opsame_any (w : World) (a b : Option Addr) (n c d : Nat) (l : List O3) (h : OpsAt w a n l) (h2 : OpsAt w b n l) (hc : n ≤ c) (hd : n ≤ d) (hn : n ≤ 1000) :
    Calls Try.prog 50 #[.slice a n c, .slice b n d] w (True_ w) := by
  have HA := hid h
  have HB := hid h2
  clear h h2
  go_enter Try.func50, Try.ntmps50
  go_wp2_with (go_at_call 61; refine (equal_any _ a b n c d l HA.out HB.out hc hd hn).mono ?_; rintro e w1 ⟨rfl, hc1⟩; have C1 := hid hc1; clear hc1)
  go_ret
  exact ⟨rfl, C1.out⟩
theorem wpList_free8 {P : Program} {ops : Array Oper} {Q : Exit → Go.Act → World → Prop} {a : Go.Act} {w : World} {rest : List Oper} {o : Oper} (hw : Region.wanted o (yielded ops a.tmps) = true) (h : wpList P ops Q ({ o with guard := none } :: rest) a w) : wpList P ops Q (o :: rest) a w := by
  rw [wpList, if_pos hw]
  rw [wpList, if_pos (show Region.wanted { o with guard := none } (yielded ops a.tmps) = true from rfl)] at h
  exact h
set_option maxRecDepth 100000 in
set_option maxHeartbeats 4000000 in
theorem dsame_any (D U I V : Int) (H : List UInt8) (K : Int) (a b : Option Addr) (c d : Nat) (A B : Int) (L : List O3) (w : World) (hH : H.length = 32) (h : OpsAt w a L.length L) (h2 : OpsAt w b L.length L) (hc : L.length ≤ c) (hd : L.length ≤ d) (hn : L.length ≤ 1000) :
    Calls Try.prog 23 #[.agg (D40 D U I V H K (.slice a L.length c) A B), .agg (D40 D U I V H K (.slice b L.length d) A B)] w (True_ w) := by
  have HA := hid h
  have HB := hid h2
  clear h h2
  go_enter Try.func23, Try.ntmps23
  go_upto_region 0 with (fail)
  go_cut [2, 3, 4] (fun v2 v3 v4 wc => ∃ (g0 g1 : Nat), v2 = .pointer (some ⟨g0, 0, none⟩) ∧ v3 = .pointer (some ⟨g1, 0, none⟩) ∧ v4 = .bool false ∧ Hid (DAt wc g0 D U I V H K (.slice a L.length c) A B) ∧ Hid (DAt wc g1 D U I V H K (.slice b L.length d) A B) ∧ Hid (Ch (fun _ => False) w wc))
  case first =>
    go_wp2
    go_meet
    case rel => exact ⟨w.heap.size, w.heap.size + 1, rfl, rfl, rfl, hid ((DAt.new (w := w) hH).f ((Ch.refl _ _).alloc _)), hid ⟨alloc_blk_new _ (Array.size_push _).symm, hH⟩, hid (((Ch.refl _ _).alloc _).alloc _)⟩
  case rest =>
    obtain ⟨g0, g1, rfl, rfl, rfl, X, Y, C⟩ := hcut
    have x0 := X.out.c0
    have x1 := X.out.c1
    have x2 := X.out.c2
    have x3 := X.out.c3
    have x36 := X.out.c36
    have x37 := X.out.c37
    have y0 := Y.out.c0
    have y1 := Y.out.c1
    have y2 := Y.out.c2
    have y3 := Y.out.c3
    have y36 := Y.out.c36
    have y37 := Y.out.c37
    have EQ4 := eq24
    have EQ6 := eq26 H hH
    go_wp2_with (first
      | (refine wpList_free8 rfl ?_; refine wpList_load_mid rfl 26 _ rfl g0 4 rfl (bv H) _ X.out.range Try.underlying26 rfl (by rw [bv_length, hH]; exact sz32) ?_)
      | (refine wpList_free8 rfl ?_; refine wpList_load_mid rfl 26 _ rfl g1 4 rfl (bv H) _ Y.out.range Try.underlying26 rfl (by rw [bv_length, hH]; exact sz32) ?_)
      | (go_at_call 50; refine (opsame_any _ a b L.length c d L (HA.out.below C.out) (HB.out.below C.out) hc hd hn).mono ?_; rintro e w1 ⟨rfl, hc1⟩; have C1 := hid (C.out.f hc1); have X1 := hid (X.out.f hc1); have Y1 := hid (Y.out.f hc1); have x38 := X1.out.c38; have x39 := X1.out.c39; have y38 := Y1.out.c38; have y39 := Y1.out.c39; clear hc1))
    go_ret
    exact ⟨by first | rfl | simp, C1.out⟩
end Cd
end Go.Proofs.Ytpcgamgjgfdpaaa

/- The statements of logs: what all of them share. -/
import Derived.Test.YtfhbbmaimaabnaaLogO
namespace Go.Proofs.Ytfhbbmaimaabnaa
open Go.RowKit Go.Cx Go.F64
set_option linter.unusedVariables false
set_option linter.unusedSimpArgs false

/-! ### within -/
set_option maxRecDepth 100000 in
set_option maxHeartbeats 400000 in
theorem within11_any (a n : Int) (w : World) (hn : 0 < n) (hn2 : n ≤ 1000000000000) :
    Calls Try.prog 11 #[.int .i64 a, .int .i64 n] w fun e w' => e = .returned (.int .i64 (a % n)) ∧ w = w' := by
  have h0 : (n == 0) = false := beq_eq_false_iff_ne.2 (by omega)
  have t1 := Int.tmod_lt_of_pos a hn
  have t2 := Int.lt_tmod_of_pos a hn
  have e := Int.tmod_eq_emod (a := a) (b := n)
  by_cases hs : a.tmod n < 0
  · have E : a % n = a.tmod n + n := by
      rw [e] at hs ⊢
      have := Int.emod_nonneg a (by omega : n ≠ 0)
      have := Int.emod_lt_of_pos a hn
      split at hs <;> split <;> simp_all <;> omega
    have HE := hid E
    clear E e
    go_enter Try.func11, Try.ntmps11
    go_wp2
    go_ret
    rw [HE.out]
    exact ⟨rfl, rfl⟩
  · have E : a % n = a.tmod n := by
      rw [e] at hs ⊢
      have := Int.emod_nonneg a (by omega : n ≠ 0)
      have := Int.emod_lt_of_pos a hn
      split at hs <;> split <;> simp_all <;> omega
    have HE := hid E
    clear E e
    go_enter Try.func11, Try.ntmps11
    go_wp2
    go_ret
    rw [HE.out]
    exact ⟨rfl, rfl⟩

/-! ### Both disks -/
theorem chfar {S T : Nat → Prop} {w a b : World} (h : Ch S w a) (k : Ch T a b) (ht : ∀ i, i < w.heap.size → ¬ T i) : Ch S w b := h.trans k (fun i hi e => absurd e (ht i hi))
/-- More blocks that are to stay as they are: those made since, by something that left the document's disk alone. -/
theorem RefAt.wide {F S : Nat → Prop} {w w' : World} {x : Nat} {d : Dk} (h : RefAt w F x d) (hc : Ch S w w') (hs : ∀ k, S k → F k ∧ k ≠ x) : RefAt w' (fun k => F k ∨ (w.heap.size ≤ k ∧ k < w'.heap.size)) x d := by
  obtain ⟨a, c, h1, h2, hF, h3, h4, h5⟩ := h
  refine ⟨a, c, hc.heap h1 (fun h => (hs _ h).2 rfl), h2.ch hc (fun b hb h => hF b hb (hs _ h).1), fun b hb h => ?_, .inl h3, fun k hk => ?_, h5⟩
  · rcases h with h | h
    · exact hF b hb h
    · have := (h2.block b hb).2; omega
  · rcases hk with hk | hk
    · exact Nat.lt_of_lt_of_le (h4 k hk) hc.size
    · exact hk.2
theorem RowsOwn.keep {S : Nat → Prop} {base : Nat} {w w' : World} {a : Option Addr} {m c : Nat} {ll : List (List UInt8)} (h : RowsOwn base w a m c ll) (hc : Ch S w w') (hs : ∀ k, base ≤ k → k < w.heap.size → ¬ S k) : RowsOwn base w' a m c ll := by
  obtain ⟨vs, h1, h2, h3, h4⟩ := h
  refine ⟨vs, h1, h2.ch hc (fun b hb => hs _ (h2.block b hb).1 (h2.block b hb).2), h3, fun i l hl => ?_⟩
  obtain ⟨a', c', e1, e2, e3⟩ := h4 i l hl
  exact ⟨a', c', e1, e2.ch hc (fun b hb => hs _ (e3 b hb).1 (e3 b hb).2.1), fun b' hb' => ⟨(e3 b' hb').1, Nat.lt_of_lt_of_le (e3 b' hb').2.1 hc.size, (e3 b' hb').2.2⟩⟩
/-- The program's disk (at p, its row at q) and the document's (at x): the same disk. -/
def TwoAt (w : World) (p q : Nat) (F : Nat → Prop) (x : Nat) (d : Dk) : Prop := DiskAt w p q d ∧ RefAt w F x d ∧ F p ∧ F q ∧ p ≠ x ∧ q ≠ x
theorem TwoAt.dk {w : World} {p q : Nat} {F : Nat → Prop} {x : Nat} {d : Dk} (h : TwoAt w p q F x d) : DiskAt w p q d := h.1
theorem TwoAt.rf {w : World} {p q : Nat} {F : Nat → Prop} {x : Nat} {d : Dk} (h : TwoAt w p q F x d) : RefAt w F x d := h.2.1
/-- What the program's disk did: the document's is as it was. -/
theorem TwoAt.one {w w' : World} {p q : Nat} {F : Nat → Prop} {x : Nat} {d : Dk} (h : TwoAt w p q F x d) (hc : Ch (fun k => k = p ∨ k = q) w w') : RefAt w' F x d :=
  h.2.1.ch hc (fun e => by rcases e with e | e; exact h.2.2.2.2.1 e.symm; exact h.2.2.2.2.2 e.symm) (fun k hk e => by rcases e with rfl | rfl; exact hk h.2.2.1; exact hk h.2.2.2.1)
/-- What the document's disk did then. -/
theorem TwoAt.two {w w1 w2 : World} {p q : Nat} {F G : Nat → Prop} {x : Nat} {d d' : Dk} (h : TwoAt w p q F x d) (h1 : DiskAt w1 p q d') (hg : ∀ k, F k → G k) (h2 : RefAt w2 G x d') (hc : Ch (fun k => k = x ∨ ¬ G k) w1 w2) : TwoAt w2 p q G x d' :=
  have n : ∀ k, F k → k ≠ x → ¬ (k = x ∨ ¬ G k) := fun k hk hx e => by rcases e with e | e; exact hx e; exact e (hg k hk)
  ⟨h1.ch hc (n p h.2.2.1 h.2.2.2.2.1) (n q h.2.2.2.1 h.2.2.2.2.2), h2, hg _ h.2.2.1, hg _ h.2.2.2.1, h.2.2.2.2⟩
theorem TwoAt.f {w w' : World} {p q : Nat} {F : Nat → Prop} {x : Nat} {d : Dk} (h : TwoAt w p q F x d) (hc : Ch (fun _ => False) w w') : TwoAt w' p q F x d :=
  ⟨h.1.ch hc id id, h.2.1.ch hc id (fun _ _ => id), h.2.2⟩
theorem TwoAt.wide {w w' : World} {p q : Nat} {F : Nat → Prop} {x : Nat} {d : Dk} (h : TwoAt w p q F x d) (hc : Ch (fun k => k = p ∨ k = q) w w') : RefAt w' (fun k => F k ∨ (w.heap.size ≤ k ∧ k < w'.heap.size)) x d :=
  h.2.1.wide hc (fun k e => by rcases e with rfl | rfl; exact ⟨h.2.2.1, h.2.2.2.2.1⟩; exact ⟨h.2.2.2.1, h.2.2.2.2.2⟩)
theorem TwoAt.mine {w : World} {p q : Nat} {F : Nat → Prop} {x : Nat} {d : Dk} (h : TwoAt w p q F x d) {n : Nat} : ∀ k, w.heap.size ≤ k → k < n → ¬ (k = x ∨ ¬ (F k ∨ (w.heap.size ≤ k ∧ k < n))) := fun k h1 h2 e => by
  have := h.2.1.fx
  rcases e with rfl | e
  · have := this.2 _ this.1; omega
  · exact e (.inr ⟨h1, h2⟩)
theorem new_two {w w1 w2 : World} {p q x : Nat} {d : Dk} (h : DiskAt w1 p q d) (hp : w.heap.size ≤ p) (hq : w.heap.size ≤ q) (hx : w1.heap.size ≤ x) (hr : RefAt w2 (fun k => k < w2.heap.size) x d) (hc : Ch (fun _ => False) w1 w2) : TwoAt w2 p q (fun k => k < w2.heap.size) x d := by
  have h1 := h.lt
  have h2 := hc.size
  exact ⟨h.ch hc id id, hr, by omega, by omega, by omega, by omega⟩
theorem far_new {w w1 w2 : World} {x : Nat} (h1 : Ch (fun _ => False) w w1) (h2 : Ch (fun _ => False) w w2) (hx : w1.heap.size ≤ x) : ∀ i, i < w.heap.size → ¬ (i = x ∨ ¬ i < w2.heap.size) := fun i hi e => by
  have := h1.size
  have := h2.size
  rcases e with rfl | e <;> omega
theorem far_wide {F G : Nat → Prop} {x n : Nat} (h : ∀ i, i < n → ¬ (i = x ∨ ¬ F i)) : ∀ i, i < n → ¬ (i = x ∨ ¬ (F i ∨ G i)) := fun i hi e =>
  h i hi (e.imp id (fun e hF => e (.inl hF)))
/-! ### known -/
theorem open_new (n : Int) : (Dk.new n).open.2 = 0 ∧ recs (Dk.new n).cont = ([], 0) := by
  have e : recs (Dk.new n).cont = ([], 0) := recs_no (fun h => by have := h.1; simp [Dk.new] at this)
  refine ⟨?_, e⟩
  unfold Dk.open
  rw [e, if_neg (by simp [Dk.new])]
  unfold Dk.cut
  have : (Dk.new n).step = Dk.new n := by unfold Dk.step; rw [if_neg (by simp [Dk.new])]
  rw [this, if_neg (by simp [Dk.new]), if_neg (by simp), if_neg (by simp [Dk.new])]
set_option maxRecDepth 100000 in
set_option maxHeartbeats 400000 in
theorem known11_any (w : World) : Calls Try.prog 10 #[] w (True_ w) := by
  have hon := open_new 100
  have ON := hid hon
  clear hon
  go_enter Try.func10, Try.ntmps10
  go_wp2_with (first
    | (go_at_call 12; refine (new_any 100 _).mono ?_; rintro e w1 ⟨p, q, rfl, hd1, hp, hq, hc1⟩; have D1 := hid hd1; have C1 := hid hc1; clear hd1 hc1)
    | (go_at_call 16; refine (lopen_any p q (Dk.new 100) _ D1.out).mono ?_; unfold OpenPost; rw [ON.out.2, ON.out.1]; rintro e w2 ⟨hd2, hc2, (⟨h, _⟩ | ⟨_, la, a, c, rfl, hl2, _, hla⟩)⟩; (exact absurd rfl h); have L2 := hid hl2; have C2 := hid (C1.out.far2 hc2 hp hq); clear hd2 hc2 hl2)
    | (go_at_call 21; refine (lcount_any la p 0 0 _ L2.out).mono ?_; rintro e w3 ⟨rfl, rfl⟩)
    | (go_at_call 22; refine (lsafe_any la p 0 0 _ L2.out).mono ?_; rintro e w3 ⟨rfl, rfl⟩))
  go_ret
  exact ⟨by simp, C2.out⟩
end Go.Proofs.Ytfhbbmaimaabnaa

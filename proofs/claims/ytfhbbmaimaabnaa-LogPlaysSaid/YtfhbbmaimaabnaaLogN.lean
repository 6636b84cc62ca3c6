/- Two logs beside one another, and the statement LogPlays: its walk. -/
import Derived.Test.YtfhbbmaimaabnaaLogL
import Derived.Test.YtfhbbmaimaabnaaArgs
import Derived.Deep.Cut
import Derived.Deep.CutBlock
import Derived.Deep.DeepCutAuto
namespace Go.Proofs.Ytfhbbmaimaabnaa
open Go.RowKit Go.Cx Go.F64
set_option linter.unusedVariables false
set_option linter.unusedSimpArgs false

theorem open_live (d : Dk) (h1 : d.dead = false) (h2 : d.left = 0) : d.open.2 = 0 := by
  have hs : d.step = d := by unfold Dk.step; rw [if_neg (by rw [h2]; simp)]
  have hl := (recs_len d.cont).1
  unfold Dk.open Dk.cut
  rw [if_neg (by rw [h1]; simp), if_neg (by rw [h1]; simp), if_neg (by omega), hs, if_neg (by rw [h1]; simp)]
/-- One more block that is to stay, and holds no bytes. -/
theorem RefAt.with_ {F : Nat → Prop} {w : World} {x : Nat} {d : Dk} (h : RefAt w F x d) {b : Nat} {cs : Array Value} {t : TypeId} (hb : w.heap[b]? = some (.cells cs t (0, 0))) (ht : t ≠ 5) : RefAt w (fun k => F k ∨ k = b) x d := by
  obtain ⟨a, c, h1, h2, hF, h3, h4, h5⟩ := h
  refine ⟨a, c, h1, h2, fun b' hb' h => ?_, .inl h3, fun k hk => ?_, h5⟩
  · rcases h with h | h
    · exact hF b' hb' h
    · obtain ⟨_, ⟨e, _⟩ | ⟨g, cap, cur, e, _, e2, _⟩⟩ := h2
      · simp only [Value.slice.injEq] at e; rw [e.1] at hb'; cases hb'
      · simp only [Value.slice.injEq] at e
        rw [e.1] at hb'
        cases hb'
        simp only at h
        subst h
        rw [hb] at e2
        simp only [Option.some.injEq, Obj.cells.injEq] at e2
        exact ht e2.2.1
  · rcases hk with hk | rfl
    · exact h4 k hk
    · exact lt_of_block hb

/-- Both disks, made by the call that began at w. -/
def Base (w wr : World) (p q x : Nat) (d : Dk) (F : Nat → Prop) : Prop := TwoAt wr p q F x d ∧ Ch (fun _ => False) w wr ∧ (∀ k, k < w.heap.size → F k) ∧ w.heap.size ≤ p ∧ w.heap.size ≤ q ∧ w.heap.size ≤ x
/-- Both logs over them. -/
def PS (w wr : World) (p q x la lb N K : Nat) (d : Dk) (F : Nat → Prop) : Prop :=
  Base w wr p q x d F ∧ LogAt wr la p N K ∧ LogRAt wr lb x N K ∧ (F la ∧ F lb) ∧ (la ≠ p ∧ la ≠ q ∧ la ≠ x) ∧ (lb ≠ p ∧ lb ≠ q ∧ lb ≠ x) ∧ la ≠ lb ∧ w.heap.size ≤ la ∧ w.heap.size ≤ lb
theorem Base.f {w wr w1 : World} {p q x : Nat} {d : Dk} {F : Nat → Prop} (h : Base w wr p q x d F) (hc : Ch (fun _ => False) wr w1) : Base w w1 p q x d F :=
  ⟨h.1.f hc, h.2.1.f hc, h.2.2⟩
theorem PS.f {w wr w1 : World} {p q x la lb N K : Nat} {d : Dk} {F : Nat → Prop} (h : PS w wr p q x la lb N K d F) (hc : Ch (fun _ => False) wr w1) : PS w w1 p q x la lb N K d F :=
  ⟨h.1.f hc, h.2.1.ch hc id, h.2.2.1.ch hc id, h.2.2.2⟩
theorem PS.base {w wr : World} {p q x la lb N K : Nat} {d : Dk} {F : Nat → Prop} (h : PS w wr p q x la lb N K d F) : Base w wr p q x d F := h.1
theorem PS.ch {w wr : World} {p q x la lb N K : Nat} {d : Dk} {F : Nat → Prop} (h : PS w wr p q x la lb N K d F) : Ch (fun _ => False) w wr := h.1.2.1
/-- What the program did. -/
theorem PS.one {w w1 w2 : World} {p q x la lb N K : Nat} {d : Dk} {F : Nat → Prop} (h : PS w w1 p q x la lb N K d F) (hc : Ch (fun k => k = p ∨ k = q ∨ k = la) w1 w2) : RefAt w2 F x d ∧ LogRAt w2 lb x N K ∧ Ch (fun _ => False) w w2 := by
  obtain ⟨⟨⟨h1, h2, h3, h4, h5, h6⟩, b1, b2, b3, b4, b5⟩, k1, k2, ⟨k3, k4⟩, ⟨k5, k6, k7⟩, ⟨k8, k9, k10⟩, k11, k12, k13⟩ := h
  refine ⟨h2.ch hc (by omega) (fun k hk e => ?_), k2.ch hc (by omega), chfar b1 hc (fun i hi e => by omega)⟩
  rcases e with rfl | rfl | rfl
  · exact hk h3
  · exact hk h4
  · exact hk k3
/-- What the document did then. -/
theorem PS.two {w w1 w2 w3 : World} {p q x la lb N K N' K' : Nat} {d d' : Dk} {F : Nat → Prop} (h : PS w w1 p q x la lb N K d F) (hc : Ch (fun k => k = p ∨ k = q ∨ k = la) w1 w2) (hd : DiskAt w2 p q d') (hl : LogAt w2 la p N' K')
    (hr : RefAt w3 F x d') (hlr : LogRAt w3 lb x N' K') (hc2 : Ch (fun k => k = x ∨ k = lb ∨ ¬ F k) w2 w3) : PS w w3 p q x la lb N' K' d' F := by
  have c2 := (h.one hc).2.2
  obtain ⟨⟨⟨h1, h2, h3, h4, h5, h6⟩, b1, b2, b3, b4, b5⟩, k1, k2, ⟨k3, k4⟩, ⟨k5, k6, k7⟩, ⟨k8, k9, k10⟩, k11, k12, k13⟩ := h
  have n : ∀ k, F k → k ≠ x → k ≠ lb → ¬ (k = x ∨ k = lb ∨ ¬ F k) := fun k hF e1 e2 h => by
    rcases h with h | h | h
    · exact e1 h
    · exact e2 h
    · exact h hF
  exact ⟨⟨⟨hd.ch hc2 (n p h3 h5 (fun e => k8 e.symm)) (n q h4 h6 (fun e => k9 e.symm)), hr, h3, h4, h5, h6⟩, chfar c2 hc2 (fun i hi => n i (b2 i hi) (by omega) (by omega)), b2, b3, b4, b5⟩,
    hl.ch hc2 (n la k3 k7 k11), hlr, ⟨k3, k4⟩, ⟨k5, k6, k7⟩, ⟨k8, k9, k10⟩, k11, k12, k13⟩
theorem Base.wide {w w1 w2 : World} {p q x : Nat} {d : Dk} {F : Nat → Prop} (h : Base w w1 p q x d F) (hc : Ch (fun k => k = p ∨ k = q) w1 w2) : RefAt w2 (fun k => F k ∨ (w1.heap.size ≤ k ∧ k < w2.heap.size)) x d := h.1.wide hc
/-- Both were opened. -/
theorem Base.two {w w1 w2 w3 : World} {p q x : Nat} {d d' : Dk} {F : Nat → Prop} (h : Base w w1 p q x d F) (hc : Ch (fun k => k = p ∨ k = q) w1 w2) (hd : DiskAt w2 p q d') (hr : RefAt w3 (fun k => F k ∨ (w1.heap.size ≤ k ∧ k < w2.heap.size)) x d') (hc2 : Ch (fun k => k = x ∨ ¬ (F k ∨ (w1.heap.size ≤ k ∧ k < w2.heap.size))) w2 w3) :
    Base w w3 p q x d' (fun k => F k ∨ (w1.heap.size ≤ k ∧ k < w2.heap.size)) := by
  obtain ⟨h1, b1, b2, b3, b4, b5⟩ := h
  refine ⟨h1.two hd (fun _ h => .inl h) hr hc2, chfar (b1.far2 hc b3 b4) hc2 (fun i hi e => ?_), fun k hk => .inl (b2 k hk), b3, b4, b5⟩
  rcases e with e | e
  · omega
  · exact e (.inl (b2 i hi))
theorem Base.opened {w w1 w2 w3 : World} {p q x la lb M : Nat} {d d' : Dk} {F : Nat → Prop} (h : Base w w1 p q x d F) (hc : Ch (fun k => k = p ∨ k = q) w1 w2) (hd : DiskAt w2 p q d') (hl : LogAt w2 la p M M) (hla : w1.heap.size ≤ la)
    (hr : RefAt w3 (fun k => F k ∨ (w1.heap.size ≤ k ∧ k < w2.heap.size)) x d') (hc2 : Ch (fun k => k = x ∨ ¬ (F k ∨ (w1.heap.size ≤ k ∧ k < w2.heap.size))) w2 w3) (hlr : LogRAt w3 lb x M M) (hlb : w2.heap.size ≤ lb) :
    PS w w3 p q x la lb M M d' (fun k => (F k ∨ (w1.heap.size ≤ k ∧ k < w2.heap.size)) ∨ k = lb) := by
  have hB := h.two hc hd hr hc2
  have f1 := h.1.rf.fx
  have f2 := h.1.2.2.1
  have f3 := h.1.2.2.2.1
  have g1 := f1.2 _ f1.1
  have g2 := f1.2 _ f2
  have g3 := f1.2 _ f3
  have g4 := hl.lt
  have g5 := h.2.1.size
  have g6 := hc.size
  obtain ⟨⟨t1, t2, t3, t4, t5⟩, b1, b2, b3⟩ := hB
  refine ⟨⟨⟨t1, t2.with_ hlr (by decide), .inl t3, .inl t4, t5⟩, b1, fun k hk => .inl (b2 k hk), b3⟩, hl.ch hc2 (fun e => ?_), hlr, ⟨.inl (.inr ⟨hla, g4⟩), .inr rfl⟩, ⟨by omega, by omega, by omega⟩, ⟨by omega, by omega, by omega⟩, by omega, by omega, by omega⟩
  rcases e with e | e
  · omega
  · exact e (.inr ⟨hla, g4⟩)
/-- Neither was opened: the logs are what they were. -/
theorem PS.refused {w w1 w2 w3 : World} {p q x la lb N K : Nat} {d d' : Dk} {F : Nat → Prop} (h : PS w w1 p q x la lb N K d F) (hc : Ch (fun k => k = p ∨ k = q) w1 w2) (hd : DiskAt w2 p q d')
    (hr : RefAt w3 (fun k => F k ∨ (w1.heap.size ≤ k ∧ k < w2.heap.size)) x d') (hc2 : Ch (fun k => k = x ∨ ¬ (F k ∨ (w1.heap.size ≤ k ∧ k < w2.heap.size))) w2 w3) :
    PS w w3 p q x la lb N K d' (fun k => F k ∨ (w1.heap.size ≤ k ∧ k < w2.heap.size)) := by
  have hB := h.1.two hc hd hr hc2
  obtain ⟨_, k1, k2, ⟨k3, k4⟩, ⟨k5, k6, k7⟩, ⟨k8, k9, k10⟩, k11, k12, k13⟩ := h
  have n : ∀ k, F k → k ≠ x → ¬ (k = x ∨ ¬ (F k ∨ (w1.heap.size ≤ k ∧ k < w2.heap.size))) := fun k hF e1 h => by
    rcases h with h | h
    · exact e1 h
    · exact h (.inl hF)
  exact ⟨hB, (k1.ch hc (by omega)).ch hc2 (n la k3 k7), (k2.ch hc (by omega)).ch hc2 (n lb k4 k10), ⟨.inl k3, .inl k4⟩, ⟨k5, k6, k7⟩, ⟨k8, k9, k10⟩, k11, k12, k13⟩
theorem Base.mine {w w1 : World} {p q x : Nat} {d : Dk} {F : Nat → Prop} (h : Base w w1 p q x d F) {n : Nat} : ∀ k, w1.heap.size ≤ k → k < n → ¬ (k = x ∨ ¬ (F k ∨ (w1.heap.size ≤ k ∧ k < n))) := h.1.mine
theorem new_base {w w1 w2 w3 : World} {p q x : Nat} {d : Dk} (h0 : Ch (fun _ => False) w w1) (h : DiskAt w2 p q d) (h1 : Ch (fun _ => False) w1 w2) (hp : w1.heap.size ≤ p) (hq : w1.heap.size ≤ q) (hx : w2.heap.size ≤ x) (hr : RefAt w3 (fun k => k < w3.heap.size) x d) (hc : Ch (fun _ => False) w2 w3) : Base w w3 p q x d (fun k => k < w3.heap.size) := by
  have s1 := h0.size
  have s2 := h1.size
  have s3 := hc.size
  exact ⟨new_two h hp hq hx hr hc, (h0.f h1).f hc, fun k hk => by omega, by omega, by omega, by omega⟩
theorem PS.away {w wr : World} {p q x la lb N K : Nat} {d : Dk} {F : Nat → Prop} (h : PS w wr p q x la lb N K d F) : la ≠ p ∧ la ≠ q := ⟨h.2.2.2.2.1.1, h.2.2.2.2.1.2.1⟩
theorem PS.stays {w wc wd w' : World} {p q x la lb N K : Nat} {d : Dk} {F : Nat → Prop} (h : PS w wc p q x la lb N K d F) (h1 : Ch (fun _ => False) wc wd) (h2 : Ch (fun k => k = p ∨ k = q ∨ k = la) wd w') : Ch (fun _ => False) w w' := by
  obtain ⟨⟨_, b1, _, b3, b4, _⟩, _, _, _, _, _, _, k12, _⟩ := h
  exact chfar (b1.f h1) h2 (fun i hi => by omega)
theorem PS.fresh {w wc : World} {p q x la lb N K : Nat} {d : Dk} {F : Nat → Prop} (h : PS w wc p q x la lb N K d F) : ¬ (wc.heap.size = p ∨ wc.heap.size = q ∨ wc.heap.size = la) := by
  have h1 := h.1.1.1.lt
  have h2 := h.2.1.lt
  omega
theorem ch3 {p q la : Nat} {w w' : World} (h : Ch (fun k => k = p ∨ k = q) w w') : Ch (fun k => k = p ∨ k = q ∨ k = la) w w' := h.weaken (fun _ _ h => h.imp id .inl)
theorem ch4 {F : Nat → Prop} {x lb : Nat} {w w' : World} (h : Ch (fun k => k = x ∨ ¬ F k) w w') : Ch (fun k => k = x ∨ k = lb ∨ ¬ F k) w w' := h.weaken (fun _ _ h => h.imp id .inr)
theorem PS.away2 {w wr : World} {p q x la lb N K : Nat} {d : Dk} {F : Nat → Prop} (h : PS w wr p q x la lb N K d F) : ¬ (la = p ∨ la = q) := by have := h.away; omega
theorem PS.away4 {w wr : World} {p q x la lb N K : Nat} {d : Dk} {F : Nat → Prop} (h : PS w wr p q x la lb N K d F) : ¬ (lb = x ∨ ¬ F lb) := fun e => by
  have h1 := h.2.2.2.1.2
  have h2 := h.2.2.2.2.2.1.2.2
  exact e.elim h2 (fun e => e h1)
theorem DiskAt.wf {w : World} {p q : Nat} {d : Dk} (h : DiskAt w p q d) : d.Wf := by obtain ⟨_, _, _, _, _, _, h⟩ := h; exact h
theorem few (l : List UInt8) (h : l.length ≤ 65536) : (recs l).1.length ≤ 10000 := by have := recs_len l; omega
theorem rec_few {w : World} {p q : Nat} {d : Dk} (h : DiskAt w p q d) : (recs d.cont).1.length ≤ 10000 := few _ (by have := h.wf.h2; have := h.wf.h3; omega)
theorem crash_few {w : World} {p q : Nat} {d : Dk} (h : DiskAt w p q d) (n : Int) : (recs (d.crash n).cont).1.length ≤ 10000 := few _ (by
  have := h.wf.h2; have := h.wf.h3
  have e : (d.crash n).cont.length ≤ d.cont.length := by unfold Dk.crash; simp only [List.length_take]; exact Nat.min_le_right _ _
  omega)
theorem RowsAt_nil (w : World) : RowsAt w none 0 0 [] := ⟨rfl, [], Sl.nil _ _, fun i l hl => by simp at hl⟩
end Go.Proofs.Ytfhbbmaimaabnaa

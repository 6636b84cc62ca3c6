/- The disk: what each of its methods does to it. -/
import Derived.Test.YtfhbbmaimaabnaaRows
import Derived.Test.YtfhbbmaimaabnaaF64
import Derived.Test.YtfhbbmaimaabnaaBytes
namespace Go.Proofs.Ytfhbbmaimaabnaa
open Go.RowKit Go.Cx Go.F64
set_option linter.unusedVariables false
set_option linter.unusedSimpArgs false

/-- A disk, as the document has it. -/
structure Dk where
  cont : List UInt8
  size : Nat
  syn : Nat
  left : Int
  dead : Bool

structure Dk.Wf (d : Dk) : Prop where
  h1 : d.syn ≤ d.cont.length
  h2 : d.cont.length ≤ d.size
  h3 : d.size ≤ 65536
  h4 : 0 ≤ d.left
  h5 : d.left ≤ 9223372036854775807

def Dk.step (d : Dk) : Dk := if 0 < d.left then { d with left := d.left - 1, dead := decide (d.left - 1 = 0) } else d

def DiskAt (w : World) (p q : Nat) (d : Dk) : Prop :=
  ∃ buf : List UInt8, buf.length = d.size ∧ buf.take d.cont.length = d.cont ∧
    w.heap[p]? = some (.cells #[.slice (some ⟨q, 0, none⟩) d.size d.size, .complex .f64 (fl d.syn) (fl d.cont.length), .int .i64 d.left, .bool d.dead] 57 (0, 0)) ∧
    w.heap[q]? = some (.cells (bv buf).toArray 5 (0, 0)) ∧ p ≠ q ∧ d.Wf

theorem DiskAt.ch {S : Nat → Prop} {w w' : World} {p q : Nat} {d : Dk} (h : DiskAt w p q d) (hc : Ch S w w') (hp : ¬ S p) (hq : ¬ S q) : DiskAt w' p q d := by
  obtain ⟨buf, h1, h2, h3, h4, h5⟩ := h
  exact ⟨buf, h1, h2, hc.heap h3 hp, hc.heap h4 hq, h5⟩


set_option maxRecDepth 100000 in
set_option maxHeartbeats 400000 in
theorem count_any (p q : Nat) (d : Dk) (w : World) (h : DiskAt w p q d) :
    Calls Try.prog 30 #[.pointer (some ⟨p, 0, none⟩)] w fun e w' => e = .returned (.int .i64 d.cont.length) ∧ w = w' := by
  obtain ⟨buf, h1, h2, h3, h4, h5, h6⟩ := h
  have c1 : w.cell? ⟨p, 1, none⟩ = some (.complex .f64 (fl d.syn) (fl d.cont.length)) := cell_blk h3 1
  have ok1 : Ok (d.cont.length : Int) := Ok.nat (by have := h6.h2; have := h6.h3; omega)
  clear h1 h2 h3 h4
  go_enter Try.func30, Try.ntmps30
  go_wp2
  go_ret
  exact ⟨rfl, rfl⟩

set_option maxRecDepth 100000 in
set_option maxHeartbeats 400000 in
theorem synced_any (p q : Nat) (d : Dk) (w : World) (h : DiskAt w p q d) :
    Calls Try.prog 41 #[.pointer (some ⟨p, 0, none⟩)] w fun e w' => e = .returned (.int .i64 d.syn) ∧ w = w' := by
  obtain ⟨buf, h1, h2, h3, h4, h5, h6⟩ := h
  have c1 : w.cell? ⟨p, 1, none⟩ = some (.complex .f64 (fl d.syn) (fl d.cont.length)) := cell_blk h3 1
  have ok1 : Ok (d.syn : Int) := Ok.nat (by have := h6.h1; have := h6.h2; have := h6.h3; omega)
  clear h1 h2 h3 h4
  go_enter Try.func41, Try.ntmps41
  go_wp2
  go_ret
  exact ⟨rfl, rfl⟩

set_option maxRecDepth 100000 in
set_option maxHeartbeats 400000 in
theorem dead_any (p q : Nat) (d : Dk) (w : World) (h : DiskAt w p q d) :
    Calls Try.prog 40 #[.pointer (some ⟨p, 0, none⟩)] w fun e w' => e = .returned (.bool d.dead) ∧ w = w' := by
  obtain ⟨buf, h1, h2, h3, h4, h5, h6⟩ := h
  have c1 : w.cell? ⟨p, 3, none⟩ = some (.bool d.dead) := cell_blk h3 3
  clear h1 h2 h3 h4
  go_enter Try.func40, Try.ntmps40
  go_wp2
  go_ret
  exact ⟨rfl, rfl⟩

set_option maxRecDepth 100000 in
set_option maxHeartbeats 400000 in
theorem step_any (p q : Nat) (d : Dk) (w : World) (h : DiskAt w p q d) :
    Calls Try.prog 31 #[.pointer (some ⟨p, 0, none⟩)] w fun e w' => e = .returned (.bool d.step.dead) ∧ DiskAt w' p q d.step ∧ Ch (fun k => k = p) w w' := by
  obtain ⟨buf, h1, h2, h3, h4, h5, h6⟩ := h
  have c2 : w.cell? ⟨p, 2, none⟩ = some (.int .i64 d.left) := cell_blk h3 2
  have c3 : w.cell? ⟨p, 3, none⟩ = some (.bool d.dead) := cell_blk h3 3
  have f2 := frozen_blk h3 2
  have f3 := frozen_blk h3 3
  have b4 := h6.h4
  have b5 := h6.h5
  by_cases hl : 0 < d.left
  · have he : d.step = { d with left := d.left - 1, dead := decide (d.left - 1 = 0) } := by unfold Dk.step; rw [if_pos hl]
    have G : ∀ w', w' = (w.setCell ⟨p, 2, none⟩ (.int .i64 (d.left - 1))).setCell ⟨p, 3, none⟩ (.bool (d.left - 1 == 0)) →
        DiskAt w' p q d.step ∧ Ch (fun k => k = p) w w' := by
      rintro w' rfl
      refine ⟨⟨buf, ?_, ?_, ?_, ?_, h5, ?_⟩, (Ch.refl _ w).set.set⟩
      · rw [he]; exact h1
      · rw [he]; exact h2
      · rw [he]
        refine (set_blk (set_blk h3 2 _) 3 _).trans ?_
        simp [Bool.beq_eq_decide_eq]
      · exact set_blk_ne (set_blk_ne h4 _ _ h5) _ _ h5
      · rw [he]; exact ⟨h6.h1, h6.h2, h6.h3, by simp; omega, by simp; omega⟩
    have hd : d.step.dead = (d.left - 1 == 0) := by rw [he]; rfl
    have HD := hid hd
    have HG := hid G
    clear hd G he h1 h2 h3 h4
    go_enter Try.func31, Try.ntmps31
    go_wp2
    go_ret
    rw [HD.out]
    exact ⟨rfl, HG.out _ rfl⟩
  · have he : d.step = d := by unfold Dk.step; rw [if_neg hl]
    rw [he]
    have G : DiskAt w p q d := ⟨buf, h1, h2, h3, h4, h5, h6⟩
    have HG := hid G
    clear G he h1 h2 h3 h4
    go_enter Try.func31, Try.ntmps31
    go_wp2
    go_ret
    exact ⟨rfl, HG.out, Ch.refl _ _⟩


def Dk.new (n : Int) : Dk := { cont := [], size := (min (max n 0) 65536).toNat, syn := 0, left := 0, dead := false }
theorem Dk.new_wf (n : Int) : (Dk.new n).Wf := ⟨Nat.le_refl _, Nat.zero_le _, by simp only [Dk.new]; omega, Int.le_refl _, by simp only [Dk.new]; decide⟩
def NewPost (n : Int) (w : World) (e : Ending) (w' : World) : Prop := ∃ p q, e = .returned (.pointer (some ⟨p, 0, none⟩)) ∧ DiskAt w' p q (Dk.new n) ∧ w.heap.size ≤ p ∧ w.heap.size ≤ q ∧ Ch (fun _ => False) w w'
set_option maxRecDepth 100000 in
set_option maxHeartbeats 400000 in
theorem new_any (n : Int) (w : World) : Calls Try.prog 12 #[.int .i64 n] w (NewPost n w) := by
  have hsz : ((Dk.new n).size : Int) = min (max n 0) 65536 := by simp only [Dk.new]; omega
  have HS := hid hsz
  have fin : ∀ w1 : World, Own w1 w.heap.size 5 1 (some ⟨w.heap.size, 0, none⟩) (Dk.new n).size (Dk.new n).size (List.replicate (Dk.new n).size (.int .u8 0)) → Ch (fun _ => False) w w1 →
      NewPost n w (.returned (.pointer (some ⟨w1.heap.size, 0, none⟩))) (w1.alloc (.cells #[.slice (some ⟨w.heap.size, 0, none⟩) (Dk.new n).size (Dk.new n).size, .complex .f64 0 0, .int .i64 0, .bool false] 57)) := by
    intro w1 h1 h2
    have hb := (h1.block _ rfl).2
    refine ⟨w1.heap.size, w.heap.size, rfl, ⟨List.replicate (Dk.new n).size 0, by simp, by simp [Dk.new], ?_, ?_, ?_, Dk.new_wf n⟩, h2.size, Nat.le_refl _, h2.alloc _⟩
    · have e0 : fl ((0 : Nat) : Int) = 0 := fl_zero
      have := alloc_blk_new (w := w1) (.cells #[.slice (some ⟨w.heap.size, 0, none⟩) (Dk.new n).size (Dk.new n).size, .complex .f64 0 0, .int .i64 0, .bool false] 57) rfl
      rw [this]
      simp only [Dk.new, List.length_nil, e0]
    · rw [bv_zero]
      exact alloc_blk_old _ h1.row
    · have : w.heap.size < w1.heap.size := hb
      omega
  have HF := hid fin
  clear hsz fin
  go_enter Try.func12, Try.ntmps12
  go_wp2_with (at_make; refine wpList_mk rfl _ _ _ rfl _ 1 _ et_u8 rfl _ (Dk.new n).size rfl rfl (by have := HS.out; omega) (by have := (Dk.new_wf n).h3; omega) (by have := (Dk.new_wf n).h3; unfold maxLen; omega) ?_; intro w1 ho1 hc1)
  all_goals (go_ret; exact HF.out _ (by assumption) (by assumption))

theorem DiskAt.drew {w : World} {p q : Nat} {d : Dk} (h : DiskAt w p q d) : DiskAt w.drew p q d := h

def Dk.put (d : Dk) (l : List UInt8) : Dk := { d with cont := d.cont ++ l }
def Dk.append (d : Dk) (l : List UInt8) : Dk × Int :=
  if d.dead = true then (d, 18) else if d.size - d.cont.length < l.length then (d, 19) else ((d.put l).step, if (d.put l).step.dead = true then 18 else 0)
def AppendPost (p q : Nat) (d : Dk) (l : List UInt8) (w : World) (e : Ending) (w' : World) : Prop :=
  e = .returned (.int .i64 (d.append l).2) ∧ DiskAt w' p q (d.append l).1 ∧ Ch (fun k => k = p ∨ k = q) w w'

set_option maxRecDepth 100000 in
set_option maxHeartbeats 1000000 in
theorem append_any (p q : Nat) (d : Dk) (a : Option Addr) (n c : Nat) (l : List UInt8) (w : World) (h : DiskAt w p q d) (hs : Sl w 1 a n c (bv l)) :
    Calls Try.prog 14 #[.pointer (some ⟨p, 0, none⟩), .slice a n c] w (AppendPost p q d l w) := by
  have HD := hid h
  have HSl := hid hs
  obtain ⟨buf, h1, h2, h3, h4, h5, h6⟩ := h
  have c0 : w.cell? ⟨p, 0, none⟩ = some (.slice (some ⟨q, 0, none⟩) d.size d.size) := cell_blk h3 0
  have c1 : w.cell? ⟨p, 1, none⟩ = some (.complex .f64 (fl d.syn) (fl d.cont.length)) := cell_blk h3 1
  have c3 : w.cell? ⟨p, 3, none⟩ = some (.bool d.dead) := cell_blk h3 3
  have f1 := frozen_blk h3 1
  have hln : l.length = n := by have := hs.1; rw [bv_length] at this; omega
  have ok1 : Ok (d.cont.length : Int) := Ok.nat (by have := h6.h2; have := h6.h3; omega)
  have ok2 : Ok (d.syn : Int) := Ok.nat (by have := h6.h1; have := h6.h2; have := h6.h3; omega)
  have b1 := h6.h1
  have b2 := h6.h2
  have b3 := h6.h3
  have HL := hid hln
  have H4 := hid h4
  have H3 := hid h3
  have H1 := hid h1
  have H2 := hid h2
  cases hd : d.dead with
  | true =>
    have G : AppendPost p q d l w (.returned (.int .i64 18)) w := by
      unfold AppendPost Dk.append; rw [if_pos hd]; exact ⟨rfl, HD.out, Ch.refl _ _⟩
    have HG := hid G
    rw [hd] at c3
    clear G h1 h2 h3 h4 hs hln hd
    go_enter Try.func14, Try.ntmps14
    go_wp2
    go_ret
    exact HG.out
  | false =>
    rw [hd] at c3
    by_cases hr : d.size - d.cont.length < n
    · have G : AppendPost p q d l w (.returned (.int .i64 19)) w.drew := by
        unfold AppendPost Dk.append; rw [if_neg (by simp [hd]), if_pos (by omega)]; exact ⟨rfl, HD.out, (Ch.refl _ _).drew⟩
      have HG := hid G
      clear G h1 h2 h3 h4 hs hln hd
      go_enter Try.func14, Try.ntmps14
      go_wp2
      refine wp_tail 10 (by kernel_rfl) (by kernel_rfl) ?_
      simp only [List.take_succ_cons, List.take_zero, List.drop_succ_cons, List.drop_zero]
      repeat still_step
      still_call (count_any p q d _ HD.out.drew).mono fun e w' h => ⟨h.1, h.2.symm⟩
      repeat still_step
      refine wpStill_nil ?_
      go_wp2
      go_ret
      exact HG.out
    · have b4 : n ≤ d.size - d.cont.length := by omega
      have HF := hid hd
      clear h1 h2 h3 h4 hs hln hd
      go_enter Try.func14, Try.ntmps14
      go_wp2
      refine wp_tail 10 (by kernel_rfl) (by kernel_rfl) ?_
      simp only [List.take_succ_cons, List.take_zero, List.drop_succ_cons, List.drop_zero]
      repeat still_step
      still_call (count_any p q d _ HD.out.drew).mono fun e w' h => ⟨h.1, h.2.symm⟩
      repeat still_step
      refine wpStill_nil ?_
      go_wp2
      refine wp_tail 8 (by kernel_rfl) (by kernel_rfl) ?_
      simp only [List.take_succ_cons, List.take_zero, List.drop_succ_cons, List.drop_zero]
      repeat still_step
      still_call (count_any p q d _ HD.out.drew.drew).mono fun e w' h => ⟨h.1, h.2.symm⟩
      repeat still_step
      refine wpStill_nil ?_
      refine wpList_cp rfl (.tmp 28) (.tmp 29) _ _ rfl 5 Try.underlying22 (by kernel_rfl) _ _ _ _ _ _ rfl rfl q d.cont.length (bv buf) 5 H4.out (bv l) ?c1 ?c2 ?c3 (bv_one l) ?c5
      case c5 =>
        intro w2 g2 hc2
        have p3 := hc2.heap H3.out h5
        have e1 : w2.cell? ⟨p, 1, none⟩ = some (.complex .f64 (fl d.syn) (fl d.cont.length)) := cell_blk p3 1
        have e2 := frozen_blk p3 1
        have ok3 : Ok (n : Int) := Ok.nat (by omega)
        have K : ∀ w3, w3 = w2.setCell ⟨p, 1, none⟩ (.complex .f64 (fl d.syn) (fl (d.cont.length + n))) → DiskAt w3 p q (d.put l) ∧ Ch (fun k => k = p ∨ k = q) w w3 := by
          rintro w3 rfl
          have hl := HL.out
          refine ⟨⟨splice buf d.cont.length l, ?_, ?_, ?_, ?_, h5, ?_⟩, ?_⟩
          · rw [length_splice _ _ _ (by rw [H1.out]; omega)]; exact H1.out
          · simp only [Dk.put, splice, H2.out]
            rw [← List.append_assoc, List.take_append_of_le_length (by simp), List.take_of_length_le (by simp)]
          · refine (set_blk p3 1 _).trans ?_
            simp [Dk.put, hl]
          · refine set_blk_ne (g2.out.trans ?_) _ _ h5
            simp [splice, bv_append, bv_take, bv_drop, bv_length]
          · exact ⟨by simp [Dk.put]; omega, by simp [Dk.put]; omega, h6.h3, h6.h4, h6.h5⟩
          · exact ((((Ch.refl _ w).drew).drew).trans hc2 (fun i _ h => .inr h)).set
        have HK := hid K
        have E : ∀ w4, DiskAt w4 p q (d.put l).step → Ch (fun k => k = p) (w2.setCell ⟨p, 1, none⟩ (.complex .f64 (fl d.syn) (fl (d.cont.length + n)))) w4 →
            ((d.put l).step.dead = true → AppendPost p q d l w (.returned (.int .i64 18)) w4) ∧ ((d.put l).step.dead = false → AppendPost p q d l w (.returned (.int .i64 0)) w4) := by
          intro w4 hd4 hc4
          have hh := hr
          have ha : d.append l = ((d.put l).step, if (d.put l).step.dead = true then 18 else 0) := by
            unfold Dk.append; rw [if_neg (by rw [HF.out]; simp), if_neg (by rw [HL.out]; exact hh)]
          have hc := (HK.out _ rfl).2.trans hc4 (fun i _ h => .inl h)
          refine ⟨fun ht => ?_, fun ht => ?_⟩
          · unfold AppendPost; rw [ha, ht]; exact ⟨rfl, hd4, hc⟩
          · unfold AppendPost; rw [ha, ht]; exact ⟨rfl, hd4, hc⟩
        have HE := hid E
        clear p3 K hc2 g2 E
        go_wp2_with (go_at_call 31; refine (step_any p q (d.put l) _ (HK.out _ rfl).1).mono ?_; rintro e w4 ⟨rfl, hd4, hc4⟩; have HD4 := hid hd4; have HC4 := hid hc4; clear hd4 hc4)
        all_goals go_ret
        all_goals first | exact (HE.out _ HD4.out HC4.out).1 (by assumption) | exact (HE.out _ HD4.out HC4.out).2 (by assumption)
      case c1 => rw [bv_length, HL.out]; unfold Nat.min; omega
      case c2 =>
        intro hpos
        rw [bv_length, HL.out] at hpos
        rw [if_neg (by omega)]
        refine ⟨rfl, ?_⟩
        have hs := HSl.out
        obtain ⟨b, o, rfl⟩ := hs.spot (by intro h; have := congrArg List.length h; rw [bv_length, HL.out] at this; simp at this; omega)
        exact ⟨_, rfl, hs.2.2.2.2 _ rfl⟩
      case c3 => rw [bv_length, bv_length, HL.out, H1.out]; omega


end Go.Proofs.Ytfhbbmaimaabnaa

/- comitiaref10's disk: what each of its methods does to it. The same model of a disk. -/
import Derived.Test.YtfhbbmaimaabnaaDiskB
namespace Go.Proofs.Ytfhbbmaimaabnaa
open Go.RowKit Go.Cx Go.F64
set_option linter.unusedVariables false
set_option linter.unusedSimpArgs false

/-- The document's disk at x; its bytes lie in a row of its own, none of F. -/
def RefAt (w : World) (F : Nat → Prop) (x : Nat) (d : Dk) : Prop :=
  ∃ a c, w.heap[x]? = some (.cells #[.slice a d.cont.length c, .int .i64 d.syn, .int .i64 d.size, .int .i64 d.left, .bool d.dead] 59 (0, 0)) ∧
    Own w 0 5 1 a d.cont.length c (bv d.cont) ∧ (∀ b, a = some b → ¬ F b.block) ∧ F x ∧ (∀ k, F k → k < w.heap.size) ∧ d.Wf
theorem RefAt.ch {S : Nat → Prop} {w w' : World} {F : Nat → Prop} {x : Nat} {d : Dk} (h : RefAt w F x d) (hc : Ch S w w') (hx : ¬ S x) (hs : ∀ k, ¬ F k → ¬ S k) : RefAt w' F x d := by
  obtain ⟨a, c, h1, h2, hF, h3, h4, h5⟩ := h
  exact ⟨a, c, hc.heap h1 hx, h2.ch hc (fun b hb => hs _ (hF b hb)), hF, h3, fun k hk => Nat.lt_of_lt_of_le (h4 k hk) hc.size, h5⟩
def RPost (F : Nat → Prop) (x : Nat) (d : Dk) (v : Value) (w : World) (e : Ending) (w' : World) : Prop := e = .returned v ∧ RefAt w' F x d ∧ Ch (fun k => k = x ∨ ¬ F k) w w'
theorem M0 (w : World) : Own (w.alloc (.cells #[] 5)) w.heap.size 5 1 (some ⟨w.heap.size, 0, none⟩) 0 0 [] := World.ownsRow_made w #[] 0 (Nat.le_refl _) (Nat.zero_le _) rfl

theorem app_free {F : Nat → Prop} {w : World} {a a' : Option Addr} {c c' : Nat} (hF : ∀ b, a = some b → ¬ F b.block) (hN : (a' = a ∧ c' = c) ∨ ∀ b, a' = some b → w.heap.size ≤ b.block) (h4 : ∀ k, F k → k < w.heap.size) : ∀ b, a' = some b → ¬ F b.block := by
  intro b hb h
  rcases hN with ⟨rfl, _⟩ | hN
  · exact hF b hb h
  · have := hN b hb; have := h4 _ h; omega

/-! ### New -/
def RNew (n : Int) (w : World) (e : Ending) (w' : World) : Prop := ∃ x, e = .returned (.pointer (some ⟨x, 0, none⟩)) ∧ w.heap.size ≤ x ∧ RefAt w' (fun k => k < w'.heap.size) x (Dk.new n) ∧ Ch (fun _ => False) w w'
set_option maxRecDepth 100000 in
set_option maxHeartbeats 400000 in
theorem rnew_any (n : Int) (w : World) : Calls Try.prog 13 #[.int .i64 n] w (RNew n w) := by
  have hsz : max 0 (min n 65536) = ((Dk.new n).size : Int) := by simp only [Dk.new]; omega
  have HS := hid hsz
  clear hsz
  go_enter Try.func13, Try.ntmps13
  go_wp2
  go_ret
  have hb := alloc_blk_new (w := w) (.cells #[.slice none 0 0, .int .i64 0, .int .i64 (max 0 (min n 65536)), .int .i64 0, .bool false] 59) rfl
  refine ⟨_, rfl, Nat.le_refl _, ⟨none, 0, ?_, Own.nil _ _ _ _, (fun b hb => by cases hb), lt_of_block hb, (fun k hk => hk), Dk.new_wf n⟩, (Ch.refl _ w).alloc _⟩
  refine hb.trans ?_
  rw [HS.out]
  rfl

/-! ### op -/
set_option maxRecDepth 100000 in
set_option maxHeartbeats 400000 in
theorem rop_any (F : Nat → Prop) (x : Nat) (d : Dk) (w : World) (h : RefAt w F x d) :
    Calls Try.prog 32 #[.pointer (some ⟨x, 0, none⟩)] w (RPost F x d.step (.bool d.step.dead) w) := by
  obtain ⟨a, c, h1, h2, hF, h3, h4, h5⟩ := h
  have c3 : w.cell? ⟨x, 3, none⟩ = some (.int .i64 d.left) := cell_blk h1 3
  have c4 : w.cell? ⟨x, 4, none⟩ = some (.bool d.dead) := cell_blk h1 4
  have f3 := frozen_blk h1 3
  have f4 := frozen_blk h1 4
  have b4 := h5.h4
  have b5 := h5.h5
  by_cases hl : 0 < d.left
  · have he : d.step = { d with left := d.left - 1, dead := decide (d.left - 1 = 0) } := by unfold Dk.step; rw [if_pos hl]
    have G : ∀ w', w' = (w.setCell ⟨x, 3, none⟩ (.int .i64 (d.left - 1))).setCell ⟨x, 4, none⟩ (.bool (d.left - 1 == 0)) →
        RefAt w' F x d.step ∧ Ch (fun k => k = x ∨ ¬ F k) w w' := by
      rintro w' rfl
      have C : Ch (fun k => k = x) w ((w.setCell ⟨x, 3, none⟩ (.int .i64 (d.left - 1))).setCell ⟨x, 4, none⟩ (.bool (d.left - 1 == 0))) := (Ch.refl _ w).set.set
      refine ⟨⟨a, c, ?_, ?_, hF, h3, fun k hk => Nat.lt_of_lt_of_le (h4 k hk) C.size, ?_⟩, C.weaken fun _ _ h => .inl h⟩
      · rw [he]
        refine (set_blk (set_blk h1 3 _) 4 _).trans ?_
        simp [Bool.beq_eq_decide_eq]
      · rw [he]; exact h2.ch C (fun b hb h => hF b hb (by rw [h]; exact h3))
      · rw [he]; exact ⟨h5.h1, h5.h2, h5.h3, by simp; omega, by simp; omega⟩
    have hd : d.step.dead = (d.left - 1 == 0) := by rw [he]; rfl
    have HD := hid hd
    have HG := hid G
    clear hd G he h1 h2
    go_enter Try.func32, Try.ntmps32
    go_wp2
    go_ret
    unfold RPost
    rw [HD.out]
    exact ⟨rfl, HG.out _ rfl⟩
  · have he : d.step = d := by unfold Dk.step; rw [if_neg hl]
    rw [he]
    have G : RefAt w F x d := ⟨a, c, h1, h2, hF, h3, h4, h5⟩
    have HG := hid G
    clear G he h1 h2
    go_enter Try.func32, Try.ntmps32
    go_wp2
    go_ret
    exact ⟨rfl, HG.out, Ch.refl _ _⟩

/-! ### Stop -/
set_option maxRecDepth 100000 in
set_option maxHeartbeats 400000 in
theorem rstop_any (F : Nat → Prop) (x : Nat) (d : Dk) (n : Int) (w : World) (h : RefAt w F x d) (hn : n ≤ 9223372036854775807) :
    Calls Try.prog 28 #[.pointer (some ⟨x, 0, none⟩), .int .i64 n] w (RPost F x (d.stop n) (.tuple #[]) w) := by
  obtain ⟨a, c, h1, h2, hF, h3, h4, h5⟩ := h
  have c3 : w.cell? ⟨x, 3, none⟩ = some (.int .i64 d.left) := cell_blk h1 3
  have f3 := frozen_blk h1 3
  have G : RPost F x (d.stop n) (.tuple #[]) w (.returned (.tuple #[])) (w.setCell ⟨x, 3, none⟩ (.int .i64 (max n 0))) := by
    have C : Ch (fun k => k = x) w (w.setCell ⟨x, 3, none⟩ (.int .i64 (max n 0))) := (Ch.refl _ w).set
    refine ⟨rfl, ⟨a, c, ?_, h2.ch C (fun b hb h => hF b hb (by rw [h]; exact h3)), hF, h3, fun k hk => Nat.lt_of_lt_of_le (h4 k hk) C.size, ⟨h5.h1, h5.h2, h5.h3, by simp only [Dk.stop]; omega, by simp only [Dk.stop]; omega⟩⟩, C.weaken fun _ _ h => .inl h⟩
    refine (set_blk h1 3 _).trans ?_
    simp [Dk.stop]
  have HG := hid G
  clear G h1 h2
  go_enter Try.func28, Try.ntmps28
  go_wp2
  go_end0
  exact HG.out

/-! ### Append -/
set_option maxRecDepth 100000 in
set_option maxHeartbeats 1000000 in
theorem rappend_any (F : Nat → Prop) (x : Nat) (d : Dk) (a0 : Option Addr) (n c0 : Nat) (l : List UInt8) (w : World) (h : RefAt w F x d) (hs : Sl w 1 a0 n c0 (bv l)) (hn : n ≤ 1000000) :
    Calls Try.prog 15 #[.pointer (some ⟨x, 0, none⟩), .slice a0 n c0] w (RPost F x (d.append l).1 (.int .i64 (d.append l).2) w) := by
  have HD := hid h
  have HSl := hid hs
  obtain ⟨a, c, h1, h2, hF, h3, h4, h5⟩ := h
  have k0 : w.cell? ⟨x, 0, none⟩ = some (.slice a d.cont.length c) := cell_blk h1 0
  have k2 : w.cell? ⟨x, 2, none⟩ = some (.int .i64 d.size) := cell_blk h1 2
  have k4 : w.cell? ⟨x, 4, none⟩ = some (.bool d.dead) := cell_blk h1 4
  have hln : l.length = n := by have := hs.1; rw [bv_length] at this; omega
  have b2 := h5.h2
  have b3 := h5.h3
  have hw : IntKind.i64.wrap ((d.size : Int) - d.cont.length) = (d.size : Int) - d.cont.length := by rw [IntKind.wrap_i64]; omega
  have H1 := hid h1
  have H2 := hid h2
  have HL := hid hln
  cases hd : d.dead with
  | true =>
    have G : RPost F x (d.append l).1 (.int .i64 (d.append l).2) w (.returned (.int .i64 18)) w := by
      unfold RPost Dk.append; rw [if_pos hd]; exact ⟨rfl, HD.out, Ch.refl _ _⟩
    have HG := hid G
    rw [hd] at k4
    clear G h1 h2 hs hln hd
    go_enter Try.func15, Try.ntmps15
    go_wp2
    go_ret
    exact HG.out
  | false =>
    rw [hd] at k4
    by_cases hr : d.size - d.cont.length < n
    · have hlt : (d.size : Int) - d.cont.length < n := by omega
      have G : ∀ k, RPost F x (d.append l).1 (.int .i64 (d.append l).2) w (.returned (.int .i64 19)) (w.drewN k) := by
        intro k
        unfold RPost Dk.append; rw [if_neg (by simp [hd]), if_pos (by omega)]; exact ⟨rfl, HD.out, (Ch.refl _ _).drewN k⟩
      have HG := hid G
      clear G h1 h2 hs hln hd hr
      go_enter Try.func15, Try.ntmps15
      go_wp2
      go_quiet (fail)
      go_wp2
      go_ret
      exact HG.out _
    · have hlt : ¬ ((d.size : Int) - d.cont.length < n) := by omega
      have E : ∀ k w2 a2 c2, Own w2 0 5 1 a2 (d.cont.length + n) c2 (bv d.cont ++ bv l) → (∀ b, a2 = some b → ¬ F b.block) → Ch (fun k => ∃ b, a = some b ∧ b.block = k) (w.drewN k) w2 →
          w2.cell? ⟨x, 0, none⟩ = some (.slice a d.cont.length c) ∧ w2.frozen? ⟨x, 0, none⟩ = false ∧ ∀ w3, w3 = w2.setCell ⟨x, 0, none⟩ (.slice a2 (d.cont.length + n) c2) → RefAt w3 F x (d.put l) ∧ Ch (fun k => k = x ∨ ¬ F k) w w3 := by
        intro k w2 a2 c2 ho hF2 hc
        have hx : w2.heap[x]? = _ := hc.heap (w := w.drewN k) h1 (fun ⟨b, hb, he⟩ => hF b hb (by rw [he]; exact h3))
        refine ⟨cell_blk hx 0, frozen_blk hx 0, ?_⟩
        rintro w3 rfl
        have C : Ch (fun k => k = x) w2 (w2.setCell ⟨x, 0, none⟩ (.slice a2 (d.cont.length + n) c2)) := (Ch.refl _ w2).set
        have e : (d.put l).cont.length = d.cont.length + n := by simp [Dk.put, hln]
        refine ⟨⟨a2, c2, ?_, ?_, hF2, h3, fun k hk => Nat.lt_of_lt_of_le (h4 k hk) (Nat.le_trans hc.size C.size), ⟨by rw [e]; have := h5.h1; simp only [Dk.put]; omega, by rw [e]; simp only [Dk.put]; omega, h5.h3, h5.h4, h5.h5⟩⟩, ?_⟩
        · refine (set_blk hx 0 _).trans ?_
          rw [e]; simp [Dk.put]
        · rw [e]
          have : (d.put l).cont = d.cont ++ l := rfl
          rw [this, bv_append]
          exact ho.ch C (fun b hb h => hF2 b hb (by rw [h]; exact h3))
        · exact (((Ch.refl (fun k => k = x ∨ ¬ F k) w).drewN k).trans hc (fun i _ ⟨b, hb, he⟩ => .inr (he ▸ hF b hb))).trans C (fun _ _ h => .inl h)
      have HE := hid E
      have R : d.append l = ((d.put l).step, if (d.put l).step.dead = true then 18 else 0) := by
        unfold Dk.append; rw [if_neg (by simp [hd]), if_neg (by omega)]
      have HR := hid R
      have hm1 : d.cont.length + n ≤ maxLen := by unfold maxLen; omega
      have hm2 : (d.cont.length + n) * 1 ≤ 140737488355328 := by omega
      clear E R h1 h2 hs hln hd hr
      go_enter Try.func15, Try.ntmps15
      go_wp2
      go_quiet (fail)
      go_wp2_with (first
        | (at_builtin; refine wpList_app rfl _ _ _ _ rfl 0 5 1 1 _ et_u8 a d.cont.length c (bv d.cont) rfl (H2.out.drewN _) _ n (bv l) rfl ((HSl.out.ch ((Ch.refl (fun _ => False) w).drewN _) (fun _ _ => id)).src Try.underlying22 (bv_one _)) hm1 hm2 (Nat.zero_le _) ?_; intro a2 c2 w2 hO hS hC hN; obtain ⟨f1, f2, E2⟩ := HE.out _ w2 a2 c2 hO (app_free hF hN (fun k hk => h4 k hk)) hC; have E2 := hid E2; clear hO hS hC hN)
        | (go_at_call 32; refine (rop_any F x (d.put l) _ (E2.out _ rfl).1).mono ?_; rintro e w4 ⟨rfl, hd4, hc4⟩; have HD4 := hid hd4; have HC4 := hid ((E2.out _ rfl).2.trans hc4 (fun _ _ h => h)); clear hd4 hc4))
      all_goals go_ret
      all_goals unfold RPost; rw [HR.out]
      · have ht : (d.put l).step.dead = true := by assumption
        rw [if_pos ht]; exact ⟨rfl, HD4.out, HC4.out⟩
      · have ht : (d.put l).step.dead = false := by assumption
        rw [if_neg (by rw [ht]; simp)]; exact ⟨rfl, HD4.out, HC4.out⟩
end Go.Proofs.Ytfhbbmaimaabnaa

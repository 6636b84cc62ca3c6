/- comitiaref11: its log. -/
import Derived.Test.YtfhbbmaimaabnaaLogB
import Derived.Test.YtfhbbmaimaabnaaLSame
namespace Go.Proofs.Ytfhbbmaimaabnaa
open Go.RowKit Go.Cx Go.F64
set_option linter.unusedVariables false
set_option linter.unusedSimpArgs false

/-- The document's log over its disk at x. -/
def LogRAt (w : World) (lb x : Nat) (N K : Nat) : Prop := w.heap[lb]? = some (.cells #[.pointer (some ⟨x, 0, none⟩), .int .i64 N, .int .i64 K] 53 (0, 0))
theorem LogRAt.ch {S : Nat → Prop} {w w' : World} {lb x N K : Nat} (h : LogRAt w lb x N K) (hc : Ch S w w') (hs : ¬ S lb) : LogRAt w' lb x N K := hc.heap h hs
theorem LogRAt.lt {w : World} {lb x N K : Nat} (h : LogRAt w lb x N K) : lb < w.heap.size := lt_of_block h
theorem LogRAt.set {w : World} {lb x N K N' K' : Nat} (h : LogRAt w lb x N K) (i : Nat) (v : Value) (hv : #[Value.pointer (some ⟨x, 0, none⟩), .int .i64 N, .int .i64 K].setIfInBounds i v = #[Value.pointer (some ⟨x, 0, none⟩), .int .i64 N', .int .i64 K']) :
    LogRAt (w.setCell ⟨lb, i, none⟩ v) lb x N' K' := by
  refine (set_blk h i v).trans ?_
  rw [hv]
def RLPost (F : Nat → Prop) (x lb : Nat) (r : Dk × Int) (N K : Nat) (w : World) (e : Ending) (w' : World) : Prop :=
  e = .returned (.int .i64 r.2) ∧ RefAt w' F x r.1 ∧ LogRAt w' lb x N K ∧ Ch (fun k => k = x ∨ k = lb ∨ ¬ F k) w w'
theorem RefAt.blk {F : Nat → Prop} {x lb : Nat} {d : Dk} {w : World} (h : RefAt w F x d) (hF : F lb) (hne : lb ≠ x) (i : Nat) (v : Value) : RefAt (w.setCell ⟨lb, i, none⟩ v) F x d :=
  h.ch (S := fun k => k = lb) (Ch.refl _ _).set (fun h => hne h.symm) (fun k hk h => hk (by rw [h]; exact hF))
set_option maxRecDepth 100000 in
set_option maxHeartbeats 1000000 in
theorem rlsync_any (F : Nat → Prop) (x lb N K : Nat) (d : Dk) (w : World) (h : RefAt w F x d) (hl : LogRAt w lb x N K) (hF : F lb) (hne : lb ≠ x) :
    Calls Try.prog 27 #[.pointer (some ⟨lb, 0, none⟩)] w (RLPost F x lb d.sync N (if d.sync.2 = 0 then N else K) w) := by
  have HD := hid h
  have HL := hid hl
  have NE := hid hne
  have HF := hid hF
  have c0 : w.cell? ⟨lb, 0, none⟩ = some (.pointer (some ⟨x, 0, none⟩)) := cell_blk hl 0
  obtain ⟨r, hr⟩ : ∃ r, r = d.sync := ⟨_, rfl⟩
  rw [← hr]
  have HR := hid hr
  obtain ⟨M, hM⟩ : ∃ M, M = (if r.2 = 0 then N else K) := ⟨_, rfl⟩
  rw [← hM]
  have HM := hid hM
  clear h hl hr hne hM hF
  by_cases h0 : r.2 = 0
  · have H0 := hid h0
    have hb : (r.2 == 0) = true := by rw [h0]; rfl
    go_enter Try.func27, Try.ntmps27
    go_wp2_with (go_at_call 46; refine (rsync_any F x d _ HD.out).mono ?_; unfold RPost; rw [← HR.out, H0.out]; rintro e w1 ⟨rfl, hd1, hc1⟩; have D1 := hid hd1; have C1 := hid hc1; have L1 := hid (HL.out.ch hc1 (fun h => by rcases h with h | h; exact NE.out h; exact h HF.out)); have x1 : w1.cell? ⟨lb, 1, none⟩ = some (.int .i64 N) := cell_blk L1.out 1; have x2 : w1.cell? ⟨lb, 2, none⟩ = some (.int .i64 K) := cell_blk L1.out 2; have y2 := frozen_blk L1.out 2; clear hd1 hc1)
    go_ret
    have hm := HM.out
    rw [if_pos H0.out] at hm
    subst hm
    unfold RLPost
    rw [H0.out]
    refine ⟨rfl, D1.out.blk HF.out NE.out _ _, L1.out.set 2 _ rfl, ?_⟩
    exact (C1.out.weaken (T := fun k => k = x ∨ k = lb ∨ ¬ F k) (fun _ _ h => by rcases h with h | h; exact .inl h; exact .inr (.inr h))).set (.inl (.inr (.inl rfl)))
  · have H0 := hid h0
    have hb : (r.2 == 0) = false := beq_eq_false_iff_ne.2 h0
    go_enter Try.func27, Try.ntmps27
    go_wp2_with (go_at_call 46; refine (rsync_any F x d _ HD.out).mono ?_; unfold RPost; rw [← HR.out]; rintro e w1 ⟨rfl, hd1, hc1⟩; have D1 := hid hd1; have C1 := hid hc1; have L1 := hid (HL.out.ch hc1 (fun h => by rcases h with h | h; exact NE.out h; exact h HF.out)); clear hd1 hc1)
    go_ret
    have hm := HM.out
    rw [if_neg H0.out] at hm
    subst hm
    unfold RLPost
    exact ⟨rfl, D1.out, L1.out, C1.out.weaken (fun _ _ h => by rcases h with h | h; exact .inl h; exact .inr (.inr h))⟩

/-! ### rows -/
set_option maxRecDepth 100000 in
set_option maxHeartbeats 1000000 in
theorem rows_any (a : Option Addr) (n c : Nat) (ll : List (List UInt8)) (b : Option Addr) (c2 : Nat) (w : World) (h : RowsAt w a n c ll) (h2 : RowsAt w b n c2 ll) :
    Calls Try.prog 18 #[.slice a n c, .slice b n c2] w (True_ w) := by
  have H := hid h
  have H2 := hid h2
  have HL := hid h.1
  have hn9 : n ≤ 9223372036854775807 := by obtain ⟨_, vs, h, _⟩ := h; have := h.2.1; have := h.2.2.1; unfold maxLen at this; omega
  clear h h2
  go_enter Try.func18, Try.ntmps18
  go_wp2
  go_loopw [5] (fun vi wr => ∃ i : Nat, i ≤ n ∧ vi = .int .i64 i ∧ Ch (fun _ => False) w wr) (fun vi _ => n - (intOf vi).toNat)
  case atStart => exact ⟨0, by omega, rfl, Ch.refl _ _⟩
  case round =>
    obtain ⟨i, hi, rfl, hc⟩ := hrel
    have C := hid hc
    clear hc
    by_cases hlt : i < n
    · obtain ⟨l, hl⟩ : ∃ l, ll[i]? = some l := ⟨_, List.getElem?_eq_getElem (by rw [HL.out]; exact hlt)⟩
      obtain ⟨b1, o1, rfl⟩ := H.out.spot (by omega)
      obtain ⟨b2, o2, rfl⟩ := H2.out.spot (by omega)
      obtain ⟨a1', c1', e1, s1⟩ := (H.out.ch C.out).at_ hl
      obtain ⟨a2', c2', e2, s2⟩ := (H2.out.ch C.out).at_ hl
      have f1 := string_ofN s1
      have f2 := string_ofN s2
      have hlti : (i : Int) < (n : Int) := by omega
      have i0 : (0 : Int) ≤ i := by omega
      clear hl s1 s2
      go_wp2
      go_quiet (fail)
      go_wp2
      go_roundw
      case rel => exact ⟨i + 1, by omega, by go_num, C.out.drewN _⟩
      case measure => simp [intOf]; omega
    · obtain rfl : i = n := by omega
      have hbq : decide ((i : Int) < (i : Int)) = false := decide_eq_false (by omega)
      go_wp2
      go_ret
      exact ⟨by simp, C.out⟩
end Go.Proofs.Ytfhbbmaimaabnaa

/- log: Open, Append, Sync, Count, Safe. -/
import Derived.Test.YtfhbbmaimaabnaaLog
import Derived.Test.YtfhbbmaimaabnaaDiskB
namespace Go.Proofs.Ytfhbbmaimaabnaa
open Go.RowKit Go.Cx Go.F64
set_option linter.unusedVariables false
set_option linter.unusedSimpArgs false

/-- A log over the disk at p: how many records, how many of them safe. -/
def LogAt (w : World) (la p : Nat) (N K : Nat) : Prop := w.heap[la]? = some (.cells #[.pointer (some ⟨p, 0, none⟩), .int .i64 N, .int .i64 K] 67 (0, 0))
theorem LogAt.ch {S : Nat → Prop} {w w' : World} {la p N K : Nat} (h : LogAt w la p N K) (hc : Ch S w w') (hs : ¬ S la) : LogAt w' la p N K := hc.heap h hs
theorem LogAt.lt {w : World} {la p N K : Nat} (h : LogAt w la p N K) : la < w.heap.size := lt_of_block h

set_option maxRecDepth 100000 in
set_option maxHeartbeats 400000 in
theorem lcount_any (la p N K : Nat) (w : World) (h : LogAt w la p N K) : Calls Try.prog 21 #[.pointer (some ⟨la, 0, none⟩)] w fun e w' => e = .returned (.int .i64 N) ∧ w' = w := by
  have c1 : w.cell? ⟨la, 1, none⟩ = some (.int .i64 N) := cell_blk h 1
  clear h
  go_enter Try.func21, Try.ntmps21
  go_wp2
  go_ret
  exact ⟨rfl, rfl⟩
set_option maxRecDepth 100000 in
set_option maxHeartbeats 400000 in
theorem lsafe_any (la p N K : Nat) (w : World) (h : LogAt w la p N K) : Calls Try.prog 22 #[.pointer (some ⟨la, 0, none⟩)] w fun e w' => e = .returned (.int .i64 K) ∧ w' = w := by
  have c1 : w.cell? ⟨la, 2, none⟩ = some (.int .i64 K) := cell_blk h 2
  clear h
  go_enter Try.func22, Try.ntmps22
  go_wp2
  go_ret
  exact ⟨rfl, rfl⟩

/-! ### Open -/
def Dk.open (d : Dk) : Dk × Int := if d.dead = true then (d, 18) else d.cut ((recs d.cont).2 : Nat)
def OpenPost (p q : Nat) (d : Dk) (w : World) (e : Ending) (w' : World) : Prop :=
  DiskAt w' p q d.open.1 ∧ Ch (fun k => k = p ∨ k = q) w w' ∧
  ((d.open.2 ≠ 0 ∧ e = .returned (.tuple #[.pointer none, .slice none 0 0, .int .i64 d.open.2])) ∨
   (d.open.2 = 0 ∧ ∃ la a c, e = .returned (.tuple #[.pointer (some ⟨la, 0, none⟩), .slice a (recs d.cont).1.length c, .int .i64 0]) ∧ LogAt w' la p (recs d.cont).1.length (recs d.cont).1.length ∧
      RowsOwn w.heap.size w' a (recs d.cont).1.length c (recs d.cont).1 ∧ w.heap.size ≤ la))
theorem DiskAt.lt {w : World} {p q : Nat} {d : Dk} (h : DiskAt w p q d) : p < w.heap.size ∧ q < w.heap.size := by
  obtain ⟨buf, h1, h2, h3, h4, _⟩ := h
  exact ⟨lt_of_block h3, lt_of_block h4⟩
theorem RowsOwn.base {base base' : Nat} {w : World} {a : Option Addr} {m c : Nat} {ll : List (List UInt8)} (h : RowsOwn base w a m c ll) (hb : base' ≤ base) : RowsOwn base' w a m c ll := by
  obtain ⟨vs, h1, h2, h3, h4⟩ := h
  refine ⟨vs, h1, h2.base_le hb, h3, fun i l hl => ?_⟩
  obtain ⟨a', c', e1, e2, e3⟩ := h4 i l hl
  exact ⟨a', c', e1, e2, fun b' hb' => ⟨Nat.le_trans hb (e3 b' hb').1, (e3 b' hb').2⟩⟩
set_option maxRecDepth 100000 in
set_option maxHeartbeats 1000000 in
theorem lopen_any (p q : Nat) (d : Dk) (w : World) (h : DiskAt w p q d) :
    Calls Try.prog 16 #[.pointer (some ⟨p, 0, none⟩)] w (OpenPost p q d w) := by
  have HD := hid h
  have LT := hid h.lt
  have hl : d.cont.length ≤ 65536 := by have h2 := h.open_; omega
  clear h
  cases hd : d.dead with
  | true =>
    have ND := hid hd
    have HO := hid (show d.open = (d, 18) by unfold Dk.open; rw [if_pos hd])
    clear hd
    go_enter Try.func16, Try.ntmps16
    go_wp2_with (go_at_call 33; refine (read_any p q d _ HD.out).mono ?_; rintro e w1 (⟨_, rfl, hc1⟩ | ⟨ht, _⟩); rotate_left; (exact absurd (ND.out.symm.trans ht) (by simp)); have C1 := hid hc1; clear hc1)
    go_ret3
    unfold OpenPost
    rw [HO.out]
    exact ⟨HD.out.ch C1.out id id, C1.out.weaken (fun _ _ h => h.elim), .inl ⟨by simp, rfl⟩⟩
  | false =>
    have ND := hid hd
    obtain ⟨R, hR⟩ : ∃ R, R = recs d.cont := ⟨_, rfl⟩
    obtain ⟨r, hr⟩ : ∃ r, r = d.cut (R.2 : Nat) := ⟨_, rfl⟩
    have HO := hid (show d.open = r by unfold Dk.open; rw [if_neg (by rw [hd]; simp), hr, hR])
    have HR := hid hR
    have HC := hid hr
    have hm : R.1.length ≤ 1000000 := by have := recs_len d.cont; rw [← hR] at this; omega
    clear hd hR hr
    have fin : ∀ w1 w2 w3 : World, Ch (fun _ => False) w w1 → ∀ a c, RowsOwn w1.heap.size w2 a R.1.length c R.1 → Ch (fun _ => False) w1 w2 → DiskAt w3 p q r.1 → Ch (fun k => k = p ∨ k = q) w2 w3 →
        (r.2 ≠ 0 → OpenPost p q d w (.returned (.tuple #[.pointer none, .slice none 0 0, .int .i64 r.2])) w3) ∧
        (r.2 = 0 → OpenPost p q d w (.returned (.tuple #[.pointer (some ⟨w3.heap.size, 0, none⟩), .slice a R.1.length c, .int .i64 0])) (w3.alloc (.cells #[.pointer (some ⟨p, 0, none⟩), .int .i64 (R.1.length : Nat), .int .i64 (R.1.length : Nat)] 67))) := by
      intro w1 w2 w3 h1 a c ha h2 h3 h4
      have hc : Ch (fun k => k = p ∨ k = q) w w3 := ((h1.f h2).weaken (fun _ _ h => h.elim)).trans h4 (fun _ _ h => h)
      have hs := h1.size
      have lt := LT.out
      unfold OpenPost
      rw [HO.out, ← HR.out]
      refine ⟨fun hn => ⟨h3, hc, .inl ⟨hn, rfl⟩⟩, fun hz => ⟨h3.ch ((Ch.refl (fun _ => False) w3).alloc _) id id, hc.alloc _, .inr ⟨hz, w3.heap.size, a, c, rfl, alloc_blk_new _ rfl, ?_, hc.size⟩⟩⟩
      exact ((ha.ch h4 (fun k hk h => by rcases h with h | h <;> omega)).base hs).ch ((Ch.refl (fun _ => False) w3).alloc _) (fun _ _ => id)
    have F := hid fin
    clear fin
    by_cases h0 : r.2 = 0
    · have H0 := hid h0
      go_enter Try.func16, Try.ntmps16
      go_wp2_with (first
        | (go_at_call 33; refine (read_any p q d _ HD.out).mono ?_; rintro e w1 (⟨ht, _⟩ | ⟨_, a1, c1, rfl, ho1, hc1⟩); (exact absurd (ND.out.symm.trans ht) (by simp)); have C1 := hid hc1; have O1 := hid ho1; clear hc1 ho1)
        | (go_at_call 34; refine (lcut_any a1 _ c1 d.cont w1 O1.out.sl (by omega)).mono ?_; unfold CutPost'; rw [← HR.out]; rintro e w2 ⟨a2, c2, rfl, ha2, hc2⟩; have A2 := hid ha2; have C2 := hid hc2; have D2 := hid (HD.out.ch (C1.out.f hc2) id id); clear ha2 hc2)
        | (go_at_call 35; refine (cut_any p q d (R.2 : Nat) w2 D2.out).mono ?_; unfold CutPost; rw [← HC.out, H0.out]; rintro e w3 ⟨rfl, hd3, hc3⟩; have E3 := hid ((F.out w1 w2 w3 C1.out a2 c2 A2.out C2.out hd3 hc3).2 H0.out); clear hd3 hc3))
      go_ret3
      exact E3.out
    · have H0 := hid h0
      have hb : (r.2 == 0) = false := beq_eq_false_iff_ne.2 h0
      go_enter Try.func16, Try.ntmps16
      go_wp2_with (first
        | (go_at_call 33; refine (read_any p q d _ HD.out).mono ?_; rintro e w1 (⟨ht, _⟩ | ⟨_, a1, c1, rfl, ho1, hc1⟩); (exact absurd (ND.out.symm.trans ht) (by simp)); have C1 := hid hc1; have O1 := hid ho1; clear hc1 ho1)
        | (go_at_call 34; refine (lcut_any a1 _ c1 d.cont w1 O1.out.sl (by omega)).mono ?_; unfold CutPost'; rw [← HR.out]; rintro e w2 ⟨a2, c2, rfl, ha2, hc2⟩; have A2 := hid ha2; have C2 := hid hc2; have D2 := hid (HD.out.ch (C1.out.f hc2) id id); clear ha2 hc2)
        | (go_at_call 35; refine (cut_any p q d (R.2 : Nat) w2 D2.out).mono ?_; unfold CutPost; rw [← HC.out]; rintro e w3 ⟨rfl, hd3, hc3⟩; have E3 := hid ((F.out w1 w2 w3 C1.out a2 c2 A2.out C2.out hd3 hc3).1 H0.out); clear hd3 hc3))
      go_ret3
      exact E3.out

/-! ### Sync -/
def LPost (p q la : Nat) (r : Dk × Int) (N K : Nat) (w : World) (e : Ending) (w' : World) : Prop :=
  e = .returned (.int .i64 r.2) ∧ DiskAt w' p q r.1 ∧ LogAt w' la p N K ∧ Ch (fun k => k = p ∨ k = q ∨ k = la) w w'
theorem LogAt.set {w : World} {la p N K N' K' : Nat} (h : LogAt w la p N K) (i : Nat) (v : Value) (hv : #[Value.pointer (some ⟨p, 0, none⟩), .int .i64 N, .int .i64 K].setIfInBounds i v = #[Value.pointer (some ⟨p, 0, none⟩), .int .i64 N', .int .i64 K']) :
    LogAt (w.setCell ⟨la, i, none⟩ v) la p N' K' := by
  refine (set_blk h i v).trans ?_
  rw [hv]
set_option maxRecDepth 100000 in
set_option maxHeartbeats 1000000 in
theorem lsync_any (p q la N K : Nat) (d : Dk) (w : World) (h : DiskAt w p q d) (hl : LogAt w la p N K) (hne : la ≠ p ∧ la ≠ q) :
    Calls Try.prog 23 #[.pointer (some ⟨la, 0, none⟩)] w (LPost p q la d.sync N (if d.sync.2 = 0 then N else K) w) := by
  have HD := hid h
  have HL := hid hl
  have NE := hid hne
  have c0 : w.cell? ⟨la, 0, none⟩ = some (.pointer (some ⟨p, 0, none⟩)) := cell_blk hl 0
  obtain ⟨r, hr⟩ : ∃ r, r = d.sync := ⟨_, rfl⟩
  rw [← hr]
  have HR := hid hr
  obtain ⟨M, hM⟩ : ∃ M, M = (if r.2 = 0 then N else K) := ⟨_, rfl⟩
  rw [← hM]
  have HM := hid hM
  clear h hl hr hne hM
  by_cases h0 : r.2 = 0
  · have H0 := hid h0
    have hb : (r.2 == 0) = true := by rw [h0]; rfl
    go_enter Try.func23, Try.ntmps23
    go_wp2_with (go_at_call 44; refine (sync_any p q d _ HD.out).mono ?_; unfold SyncPost; rw [← HR.out, H0.out]; rintro e w1 ⟨rfl, hd1, hc1⟩; have D1 := hid hd1; have C1 := hid hc1; have L1 := hid (HL.out.ch hc1 (by have := NE.out; omega)); have x1 : w1.cell? ⟨la, 1, none⟩ = some (.int .i64 N) := cell_blk L1.out 1; have x2 : w1.cell? ⟨la, 2, none⟩ = some (.int .i64 K) := cell_blk L1.out 2; have y2 := frozen_blk L1.out 2; clear hd1 hc1)
    go_ret
    have hm := HM.out
    rw [if_pos H0.out] at hm
    subst hm
    unfold LPost
    rw [H0.out]
    refine ⟨rfl, D1.out.ch (S := fun k => k = la) (Ch.refl _ _).set (by have := NE.out; omega) (by have := NE.out; omega), L1.out.set 2 _ rfl, ?_⟩
    exact (C1.out.weaken (T := fun k => k = p ∨ k = q ∨ k = la) (fun _ _ h => by rcases h with h | h; exact .inl h; exact .inr (.inl h))).set (.inl (.inr (.inr rfl)))
  · have H0 := hid h0
    have hb : (r.2 == 0) = false := beq_eq_false_iff_ne.2 h0
    go_enter Try.func23, Try.ntmps23
    go_wp2_with (go_at_call 44; refine (sync_any p q d _ HD.out).mono ?_; unfold SyncPost; rw [← HR.out]; rintro e w1 ⟨rfl, hd1, hc1⟩; have D1 := hid hd1; have C1 := hid hc1; have L1 := hid (HL.out.ch hc1 (by have := NE.out; omega)); clear hd1 hc1)
    go_ret
    have hm := HM.out
    rw [if_neg H0.out] at hm
    subst hm
    unfold LPost
    exact ⟨rfl, D1.out, L1.out, C1.out.weaken (fun _ _ h => by rcases h with h | h; exact .inl h; exact .inr (.inl h))⟩

/-! ### Append -/
def Dk.log (d : Dk) (l : List UInt8) : Dk × Int := if 16384 < l.length then (d, 5) else d.append (Cd.le8 (l.length : Nat) ++ l)
set_option maxRecDepth 100000 in
set_option maxHeartbeats 1000000 in
theorem lappend_any (p q la N K : Nat) (d : Dk) (a : Option Addr) (n c : Nat) (l : List UInt8) (w : World) (h : DiskAt w p q d) (hl : LogAt w la p N K) (hne : la ≠ p ∧ la ≠ q) (hs : Sl w 1 a n c (bv l)) (hN : N ≤ 1000000) :
    Calls Try.prog 20 #[.pointer (some ⟨la, 0, none⟩), .slice a n c] w (LPost p q la (d.log l) (if (d.log l).2 = 0 then N + 1 else N) K w) := by
  have HD := hid h
  have HL := hid hl
  have NE := hid hne
  have HS := hid hs
  have hln : l.length = n := by have := hs.1; rw [bv_length] at this; omega
  have LN := hid hln
  have c0 : w.cell? ⟨la, 0, none⟩ = some (.pointer (some ⟨p, 0, none⟩)) := cell_blk hl 0
  clear h hl hne hs
  obtain ⟨M, hM⟩ : ∃ M, M = (if (d.log l).2 = 0 then N + 1 else N) := ⟨_, rfl⟩
  rw [← hM]
  have HM := hid hM
  obtain ⟨rr, hrr⟩ : ∃ rr, rr = d.log l := ⟨_, rfl⟩
  rw [← hrr]
  have HRR := hid hrr
  clear hM hrr
  by_cases hbig : 16384 < n
  · have G : LPost p q la rr M K w (.returned (.int .i64 5)) w := by
      have e : d.log l = (d, 5) := by unfold Dk.log; rw [if_pos (by omega)]
      have hm := HM.out
      rw [e, if_neg (by simp)] at hm
      rw [HRR.out, e, hm]
      exact ⟨rfl, HD.out, HL.out, Ch.refl _ _⟩
    have HG := hid G
    have hbi : (16384 : Int) < (n : Nat) := by omega
    clear G hln hbig
    go_enter Try.func20, Try.ntmps20
    go_wp2
    go_ret
    exact HG.out
  · have e : rr = d.append (Cd.le8 (n : Nat) ++ l) := by rw [HRR.out]; unfold Dk.log; rw [if_neg (by omega), hln]
    have HR := hid e
    have hm := HM.out
    rw [← HRR.out] at hm
    have HM2 := hid hm
    have hbi : ¬ (16384 : Int) < (n : Nat) := by omega
    clear e hln hm hbig
    by_cases h0 : rr.2 = 0
    · have H0 := hid h0
      have hm := HM2.out
      rw [if_pos h0] at hm
      subst hm
      go_enter Try.func20, Try.ntmps20
      go_wp2_with (first
        | (go_at_call 43; refine (Cd.int_any none 0 0 [] (n : Nat) _ (Sl.nil _ _) (by omega)).mono ?_; rw [List.nil_append]; rintro e w1 ⟨a1, c1, rfl, ho1, hc1⟩; have O1 := hid ho1; have C1 := hid hc1; clear ho1 hc1)
        | (go_at_call 42; refine (Cd.concat2 w1 a1 _ c1 (Cd.le8 (n : Nat)) a n c l O1.out.sl (HS.out.ch C1.out (fun _ _ => id)) (by omega) _ rfl).mono ?_; rintro e w2 ⟨a2, c2, rfl, ho2, hc2⟩; have O2 := hid ho2; have C2 := hid (C1.out.f hc2); have D2 := hid (HD.out.ch C2.out id id); clear ho2 hc2)
        | (go_at_call 14; refine (append_any p q d a2 _ c2 _ w2 D2.out O2.out.sl).mono ?_; unfold AppendPost; rw [← HR.out, H0.out]; rintro e w3 ⟨rfl, hd3, hc3⟩; have D3 := hid hd3; have C3 := hid ((C2.out.weaken (fun _ _ h => h.elim)).trans hc3 (fun _ _ h => h)); have L3 := hid (HL.out.ch C3.out (by have := NE.out; omega)); have x1 : w3.cell? ⟨la, 1, none⟩ = some (.int .i64 N) := cell_blk L3.out 1; have y1 := frozen_blk L3.out 1; clear hd3 hc3))
      go_ret
      unfold LPost
      rw [H0.out]
      refine ⟨rfl, D3.out.ch (S := fun k => k = la) (Ch.refl _ _).set (by have := NE.out; omega) (by have := NE.out; omega), L3.out.set 1 _ rfl, ?_⟩
      exact (C3.out.weaken (T := fun k => k = p ∨ k = q ∨ k = la) (fun _ _ h => by rcases h with h | h; exact .inl h; exact .inr (.inl h))).set (.inl (.inr (.inr rfl)))
    · have H0 := hid h0
      have hb : (rr.2 == 0) = false := beq_eq_false_iff_ne.2 h0
      have hm := HM2.out
      rw [if_neg h0] at hm
      subst hm
      go_enter Try.func20, Try.ntmps20
      go_wp2_with (first
        | (go_at_call 43; refine (Cd.int_any none 0 0 [] (n : Nat) _ (Sl.nil _ _) (by omega)).mono ?_; rw [List.nil_append]; rintro e w1 ⟨a1, c1, rfl, ho1, hc1⟩; have O1 := hid ho1; have C1 := hid hc1; clear ho1 hc1)
        | (go_at_call 42; refine (Cd.concat2 w1 a1 _ c1 (Cd.le8 (n : Nat)) a n c l O1.out.sl (HS.out.ch C1.out (fun _ _ => id)) (by omega) _ rfl).mono ?_; rintro e w2 ⟨a2, c2, rfl, ho2, hc2⟩; have O2 := hid ho2; have C2 := hid (C1.out.f hc2); have D2 := hid (HD.out.ch C2.out id id); clear ho2 hc2)
        | (go_at_call 14; refine (append_any p q d a2 _ c2 _ w2 D2.out O2.out.sl).mono ?_; unfold AppendPost; rw [← HR.out]; rintro e w3 ⟨rfl, hd3, hc3⟩; have D3 := hid hd3; have C3 := hid ((C2.out.weaken (fun _ _ h => h.elim)).trans hc3 (fun _ _ h => h)); have L3 := hid (HL.out.ch C3.out (by have := NE.out; omega)); clear hd3 hc3))
      go_ret
      exact ⟨rfl, D3.out, L3.out, C3.out.weaken (fun _ _ h => by rcases h with h | h; exact .inl h; exact .inr (.inl h))⟩
end Go.Proofs.Ytfhbbmaimaabnaa

/- The disk, more: Stop, Read, Sync, Cut, Crash. -/
import Derived.Test.YtfhbbmaimaabnaaDisk
namespace Go.Proofs.Ytfhbbmaimaabnaa
open Go.RowKit Go.Cx Go.F64
set_option linter.unusedVariables false
set_option linter.unusedSimpArgs false

/-- What the walk wants of a disk: its cells. -/
theorem DiskAt.open_ {w : World} {p q : Nat} {d : Dk} (h : DiskAt w p q d) :
    w.cell? ⟨p, 0, none⟩ = some (.slice (some ⟨q, 0, none⟩) d.size d.size) ∧ w.cell? ⟨p, 1, none⟩ = some (.complex .f64 (fl d.syn) (fl d.cont.length)) ∧
    w.cell? ⟨p, 2, none⟩ = some (.int .i64 d.left) ∧ w.cell? ⟨p, 3, none⟩ = some (.bool d.dead) ∧
    w.frozen? ⟨p, 1, none⟩ = false ∧ w.frozen? ⟨p, 2, none⟩ = false ∧ w.frozen? ⟨p, 3, none⟩ = false ∧ Ok (d.cont.length : Int) ∧ Ok (d.syn : Int) ∧
    d.syn ≤ d.cont.length ∧ d.cont.length ≤ d.size ∧ d.size ≤ 65536 ∧ 0 ≤ d.left ∧ d.left ≤ 9223372036854775807 := by
  obtain ⟨buf, h1, h2, h3, h4, h5, h6⟩ := h
  have b1 := h6.h1
  have b2 := h6.h2
  have b3 := h6.h3
  exact ⟨cell_blk h3 0, cell_blk h3 1, cell_blk h3 2, cell_blk h3 3, frozen_blk h3 1, frozen_blk h3 2, frozen_blk h3 3, Ok.nat (by omega), Ok.nat (by omega), b1, b2, b3, h6.h4, h6.h5⟩

/-- Another place mark ahead of the end: fewer bytes, all of them synced. -/
theorem DiskAt.mark {w : World} {p q : Nat} {d : Dk} (h : DiskAt w p q d) (m s : Nat) (hm : m ≤ d.cont.length) (hs : s ≤ m) :
    DiskAt (w.setCell ⟨p, 1, none⟩ (.complex .f64 (fl s) (fl m))) p q { d with cont := d.cont.take m, syn := s } := by
  obtain ⟨buf, h1, h2, h3, h4, h5, h6⟩ := h
  have hl : (d.cont.take m).length = m := by simp; omega
  refine ⟨buf, h1, ?_, ?_, set_blk_ne h4 _ _ h5, h5, ⟨by simp only [hl]; exact hs, by simp only [hl]; have := h6.h2; omega, h6.h3, h6.h4, h6.h5⟩⟩
  · simp only [hl]
    rw [← h2, List.take_take, Nat.min_eq_left hm]
  · refine (set_blk h3 1 _).trans ?_
    simp only [hl]
    simp

theorem DiskAt.flags {w : World} {p q : Nat} {d : Dk} (h : DiskAt w p q d) (l : Int) (b : Bool) (h0 : 0 ≤ l) (h1 : l ≤ 9223372036854775807) :
    DiskAt ((w.setCell ⟨p, 2, none⟩ (.int .i64 l)).setCell ⟨p, 3, none⟩ (.bool b)) p q { d with left := l, dead := b } := by
  obtain ⟨buf, g1, g2, g3, g4, g5, g6⟩ := h
  refine ⟨buf, g1, g2, ?_, set_blk_ne (set_blk_ne g4 _ _ g5) _ _ g5, g5, ⟨g6.h1, g6.h2, g6.h3, h0, h1⟩⟩
  refine (set_blk (set_blk g3 2 _) 3 _).trans ?_
  simp
theorem DiskAt.left {w : World} {p q : Nat} {d : Dk} (h : DiskAt w p q d) (l : Int) (h0 : 0 ≤ l) (h1 : l ≤ 9223372036854775807) :
    DiskAt (w.setCell ⟨p, 2, none⟩ (.int .i64 l)) p q { d with left := l } := by
  obtain ⟨buf, g1, g2, g3, g4, g5, g6⟩ := h
  refine ⟨buf, g1, g2, ?_, set_blk_ne g4 _ _ g5, g5, ⟨g6.h1, g6.h2, g6.h3, h0, h1⟩⟩
  refine (set_blk g3 2 _).trans ?_
  simp

theorem DiskAt.drewN {w : World} {p q : Nat} {d : Dk} (h : DiskAt w p q d) (n : Nat) : DiskAt (w.drewN n) p q d := h
theorem step_cont (d : Dk) : d.step.cont = d.cont := by unfold Dk.step; split <;> rfl
theorem step_size (d : Dk) : d.step.size = d.size := by unfold Dk.step; split <;> rfl
theorem step_syn (d : Dk) : d.step.syn = d.syn := by unfold Dk.step; split <;> rfl

/-! ### Stop -/
def Dk.stop (d : Dk) (n : Int) : Dk := { d with left := max n 0 }
def StopPost (p q : Nat) (d : Dk) (n : Int) (w : World) (e : Ending) (w' : World) : Prop :=
  e = .returned (.tuple #[]) ∧ DiskAt w' p q (d.stop n) ∧ Ch (fun k => k = p ∨ k = q) w w'
set_option maxRecDepth 100000 in
set_option maxHeartbeats 400000 in
theorem stop_any (p q : Nat) (d : Dk) (n : Int) (w : World) (h : DiskAt w p q d) (hn : n ≤ 9223372036854775807) :
    Calls Try.prog 24 #[.pointer (some ⟨p, 0, none⟩), .int .i64 n] w (StopPost p q d n w) := by
  have HD := hid h
  obtain ⟨c0, c1, c2, c3, f1, f2, f3, o1, o2, b1, b2, b3, b4, b5⟩ := h.open_
  clear h
  have G : StopPost p q d n w (.returned (.tuple #[])) (w.setCell ⟨p, 2, none⟩ (.int .i64 (max n 0))) :=
    ⟨rfl, HD.out.left (max n 0) (by omega) (by omega), (Ch.refl _ _).set⟩
  have HG := hid G
  clear G
  go_enter Try.func24, Try.ntmps24
  go_wp2
  go_end0
  exact HG.out

/-! ### Read -/
def ReadPost (d : Dk) (w : World) (e : Ending) (w' : World) : Prop :=
  (d.dead = true ∧ e = .returned (.tuple #[.slice none 0 0, .int .i64 18]) ∧ Ch (fun _ => False) w w') ∨
  (d.dead = false ∧ ∃ a c, e = .returned (.tuple #[.slice a d.cont.length c, .int .i64 0]) ∧ Own w' w.heap.size 5 1 a d.cont.length c (bv d.cont) ∧ Ch (fun _ => False) w w')
theorem DiskAt.sl {w : World} {p q : Nat} {d : Dk} (h : DiskAt w p q d) : Sl w 1 (some ⟨q, 0, none⟩) d.cont.length d.size (bv d.cont) := by
  obtain ⟨buf, h1, h2, h3, h4, h5, h6⟩ := h
  refine ⟨by rw [bv_length, Nat.mul_one], h6.h2, by have := h6.h3; unfold maxLen; omega, (fun h => by cases h), ?_⟩
  intro b hb j u hu
  cases hb
  rw [add_eq, Nat.zero_add, cell_blk h4, ← h2, bv_take, List.getElem?_take] at *
  split at hu
  · simpa using hu
  · cases hu
set_option maxRecDepth 100000 in
set_option maxHeartbeats 400000 in
theorem read_any (p q : Nat) (d : Dk) (w : World) (h : DiskAt w p q d) :
    Calls Try.prog 33 #[.pointer (some ⟨p, 0, none⟩)] w (ReadPost d w) := by
  have HD := hid h
  obtain ⟨c0, c1, c2, c3, f1, f2, f3, o1, o2, b1, b2, b3, b4, b5⟩ := h.open_
  clear h
  cases hd : d.dead with
  | true =>
    have G : ReadPost d w (.returned (.tuple #[.slice none 0 0, .int .i64 18])) w := .inl ⟨hd, rfl, Ch.refl _ _⟩
    have HG := hid G
    rw [hd] at c3
    clear G hd
    go_enter Try.func33, Try.ntmps33
    go_wp2
    go_ret2
    exact HG.out
  | false =>
    rw [hd] at c3
    have HF := hid hd
    clear hd
    go_enter Try.func33, Try.ntmps33
    go_wp2
    refine wp_tail 6 (by kernel_rfl) (by kernel_rfl) ?_
    simp only [List.take_succ_cons, List.take_zero, List.drop_succ_cons, List.drop_zero]
    repeat still_step
    still_call (count_any p q d _ HD.out.drew).mono fun e w' h => ⟨h.1, h.2.symm⟩
    repeat still_step
    refine wpStill_nil ?_
    go_wp2_with (go_at_call 47; refine (clone_any _ d.cont.length _ (bv d.cont) _ HD.out.drew.sl (bv_one _) (by omega)).mono ?_; rintro e w1 ⟨a1, k1, rfl, ho1, hc1⟩; have HO := hid ho1; have HC := hid hc1; clear ho1 hc1)
    go_ret2
    exact .inr ⟨HF.out, _, _, rfl, HO.out, ((Ch.refl _ w).drew).trans HC.out (fun _ _ h => h)⟩


/-! ### Sync -/
def Dk.sync (d : Dk) : Dk × Int := if d.dead = true then (d, 18) else if d.step.dead = true then (d.step, 18) else ({ d.step with syn := d.cont.length }, 0)
def SyncPost (p q : Nat) (d : Dk) (w : World) (e : Ending) (w' : World) : Prop :=
  e = .returned (.int .i64 d.sync.2) ∧ DiskAt w' p q d.sync.1 ∧ Ch (fun k => k = p ∨ k = q) w w'
set_option maxRecDepth 100000 in
set_option maxHeartbeats 400000 in
theorem sync_any (p q : Nat) (d : Dk) (w : World) (h : DiskAt w p q d) :
    Calls Try.prog 44 #[.pointer (some ⟨p, 0, none⟩)] w (SyncPost p q d w) := by
  have HD := hid h
  obtain ⟨c0, c1, c2, c3, f1, f2, f3, o1, o2, b1, b2, b3, b4, b5⟩ := h.open_
  clear h
  cases hd : d.dead with
  | true =>
    have G : SyncPost p q d w (.returned (.int .i64 18)) w := by
      unfold SyncPost Dk.sync; rw [if_pos hd]; exact ⟨rfl, HD.out, Ch.refl _ _⟩
    have HG := hid G
    rw [hd] at c3
    clear G hd
    go_enter Try.func44, Try.ntmps44
    go_wp2
    go_ret
    exact HG.out
  | false =>
    rw [hd] at c3
    have HF := hid hd
    clear hd
    go_enter Try.func44, Try.ntmps44
    go_wp2_with (go_at_call 31; refine (step_any p q d _ HD.out).mono ?_; rintro e w1 ⟨rfl, hd1, hc1⟩; have HD1 := hid hd1; have HC1 := hid hc1; obtain ⟨e0, e1, e2, e3, g1, g2, g3, o3, o4, b6, b7, b8, b9, b10⟩ := hd1.open_; clear hd1 hc1)
    · go_ret
      have hs : d.step.dead = true := by assumption
      unfold SyncPost Dk.sync; rw [if_neg (by rw [HF.out]; simp), if_pos hs]
      exact ⟨rfl, HD1.out, HC1.out.weaken fun _ _ h => .inl h⟩
    · have hs : d.step.dead = false := by assumption
      have HS := hid hs
      have HM := hid (HD1.out.mark d.step.cont.length d.step.cont.length (Nat.le_refl _) (Nat.le_refl _))
      clear hs
      refine wp_tail 12 (by kernel_rfl) (by kernel_rfl) ?_
      simp only [List.take_succ_cons, List.take_zero, List.drop_succ_cons, List.drop_zero]
      repeat still_step
      refine wpStill_nil ?_
      go_wp2
      go_ret
      have hm := HM.out
      unfold SyncPost Dk.sync; rw [if_neg (by rw [HF.out]; simp), if_neg (by rw [HS.out]; simp)]
      rw [List.take_of_length_le (Nat.le_refl _), step_cont] at hm
      simp only [step_cont]
      refine ⟨rfl, hm, ?_⟩
      exact ((HC1.out.drew).weaken (T := fun k => k = p ∨ k = q) fun _ _ h => .inl h).set

/-! ### Cut -/
def Dk.cut (d : Dk) (n : Int) : Dk × Int :=
  if d.dead = true then (d, 18) else if n < 0 ∨ d.cont.length < n then (d, 1) else if d.step.dead = true then (d.step, 18) else ({ d.step with cont := d.cont.take n.toNat, syn := n.toNat }, 0)
def CutPost (p q : Nat) (d : Dk) (n : Int) (w : World) (e : Ending) (w' : World) : Prop :=
  e = .returned (.int .i64 (d.cut n).2) ∧ DiskAt w' p q (d.cut n).1 ∧ Ch (fun k => k = p ∨ k = q) w w'
def CutJump (p q : Nat) (d : Dk) (n : Int) (w : World) (a' : Act) (w' : World) : Prop :=
  ∃ u0 u1 u2 u3 u4 u5 u6 u7 u8 u9 u10 u11 u12 u13 u14 u15 u16 u17 u18 u19 u20 u21 u22 u23 u24 u25 u26 u27 u28 u29 u30 u31 : Value, a' = { tmps := #[u0, u1, u2, u3, u4, u5, u6, u7, u8, u9, u10, u11, u12, u13, u14, u15, u16, u17, u18, u19, u20, u21, u22, u23, u24, u25, u26, u27, u28, u29, u30, u31], defers := [] } ∧ CutPost p q d n w (.returned (.int .i64 18)) w'
set_option maxRecDepth 100000 in
set_option maxHeartbeats 400000 in
theorem cut_any (p q : Nat) (d : Dk) (n : Int) (w : World) (h : DiskAt w p q d) :
    Calls Try.prog 35 #[.pointer (some ⟨p, 0, none⟩), .int .i64 n] w (CutPost p q d n w) := by
  have HD := hid h
  obtain ⟨c0, c1, c2, c3, f1, f2, f3, o1, o2, b1, b2, b3, b4, b5⟩ := h.open_
  clear h
  go_enter Try.func35, Try.ntmps35
  go_wp2
  refine wp_scope_jumps 0 (CutJump p q d n w) (fun _ _ => 0) rfl ?_ ?_
  case refine_2 =>
    rintro a' w' ⟨u0, u1, u2, u3, u4, u5, u6, u7, u8, u9, u10, u11, u12, u13, u14, u15, u16, u17, u18, u19, u20, u21, u22, u23, u24, u25, u26, u27, u28, u29, u30, u31, rfl, hp⟩
    have HP := hid hp
    clear hp
    go_wp2
    simp only [Exit.jump]
    go_ret
    exact HP.out
  cases hd : d.dead with
  | true =>
    have G : CutPost p q d n w (.returned (.int .i64 18)) w := by
      unfold CutPost Dk.cut; rw [if_pos hd]; exact ⟨rfl, HD.out, Ch.refl _ _⟩
    have HG := hid G
    rw [hd] at c3
    clear G hd
    go_wp2
    refine wp_goto ?_
    simp only [Exit.then, Exit.inBlock, Exit.jump]
    exact ⟨trivial, _, _, _, _, _, _, _, _, _, _, _, _, _, _, _, _, _, _, _, _, _, _, _, _, _, _, _, _, _, _, _, _, rfl, HG.out⟩
  | false =>
    rw [hd] at c3
    have HF := hid hd
    clear hd
    by_cases hn : n < 0 ∨ d.cont.length < n
    · have G : CutPost p q d n w (.returned (.int .i64 1)) w := by
        unfold CutPost Dk.cut; rw [if_neg (by rw [HF.out]; simp), if_pos hn]; exact ⟨rfl, HD.out, Ch.refl _ _⟩
      have HG := hid G
      clear G
      by_cases hn0 : n < 0
      · clear hn
        go_wp2
        simp only [Exit.jump]
        go_ret
        exact HG.out
      · have hn1 : (d.cont.length : Int) < n := by omega
        clear hn
        go_wp2_with (go_at_call 30; refine (count_any p q d _ HD.out).mono ?_; rintro e w1 ⟨rfl, rfl⟩)
        simp only [Exit.jump]
        go_ret
        exact HG.out
    · have hn0 : 0 ≤ n := by omega
      have hn1 : n ≤ (d.cont.length : Int) := by omega
      have HN := hid hn
      have HM : ∀ w1, DiskAt w1 p q d.step → Ch (fun k => k = p) w w1 → d.step.dead = false → CutPost p q d n w (.returned (.int .i64 0)) (w1.setCell ⟨p, 1, none⟩ (.complex .f64 (fl n) (fl n))) := by
        intro w1 h1 h2 h3
        unfold CutPost Dk.cut; rw [if_neg (by rw [HF.out]; simp), if_neg HN.out, if_neg (by rw [h3]; simp)]
        have hm := h1.mark n.toNat n.toNat (by rw [step_cont]; omega) (Nat.le_refl _)
        have en : (n.toNat : Int) = n := by omega
        rw [en, step_cont] at hm
        exact ⟨rfl, hm, (h2.weaken fun _ _ h => .inl h).set⟩
      have HK : ∀ w1, DiskAt w1 p q d.step → Ch (fun k => k = p) w w1 → d.step.dead = true → CutPost p q d n w (.returned (.int .i64 18)) w1 := by
        intro w1 h1 h2 h3
        unfold CutPost Dk.cut; rw [if_neg (by rw [HF.out]; simp), if_neg HN.out, if_pos h3]
        exact ⟨rfl, h1, h2.weaken fun _ _ h => .inl h⟩
      have HMH := hid HM
      have HKH := hid HK
      clear hn HM HK
      have okn : Ok n := Ok.of hn0 (by omega)
      go_wp2_with (first | (go_at_call 30; refine (count_any p q d _ HD.out).mono ?_; rintro e w1 ⟨rfl, rfl⟩) | (go_at_call 31; refine (step_any p q d _ HD.out).mono ?_; rintro e w1 ⟨rfl, hd1, hc1⟩; have HD1 := hid hd1; have HC1 := hid hc1; obtain ⟨e0, e1, e2, e3, g1, g2, g3, o3, o4, b6, b7, b8, b9, b10⟩ := hd1.open_; clear hd1 hc1))
      · refine wp_goto ?_
        simp only [Exit.then, Exit.inBlock, Exit.jump]
        exact ⟨trivial, _, _, _, _, _, _, _, _, _, _, _, _, _, _, _, _, _, _, _, _, _, _, _, _, _, _, _, _, _, _, _, _, rfl, HKH.out _ HD1.out HC1.out (by assumption)⟩
      · simp only [Exit.jump]
        go_ret
        exact HMH.out _ HD1.out HC1.out (by assumption)

/-! ### Crash -/
def Dk.crash (d : Dk) (pick : Int) : Dk :=
  { d with cont := d.cont.take (d.syn + (pick % ((d.cont.length - d.syn + 1 : Nat) : Int)).toNat), syn := d.syn + (pick % ((d.cont.length - d.syn + 1 : Nat) : Int)).toNat, left := 0, dead := false }
def CrashPost (p q : Nat) (d : Dk) (n : Int) (w : World) (e : Ending) (w' : World) : Prop :=
  e = .returned (.tuple #[]) ∧ DiskAt w' p q (d.crash n) ∧ Ch (fun k => k = p ∨ k = q) w w'
theorem rem_rem (a m : Int) (hm : 0 < m) : (a.tmod m + m).tmod m = a % m := by
  have h2 := Int.lt_tmod_of_pos a hm
  rw [Int.tmod_eq_emod_of_nonneg (by omega), Int.add_emod_right]
  have h3 := Int.mul_tdiv_add_tmod a m
  have h4 : a = a.tmod m + m * a.tdiv m := by omega
  conv => rhs; rw [h4]
  rw [Int.add_mul_emod_self_left]
theorem crash_val (s m n : Int) (h0 : 0 ≤ s) (h1 : s ≤ 100000) (h2 : 0 < m) (h3 : m ≤ 100000) : wrap64 (s + (wrap64 (n.tmod m + m)).tmod m) = s + n % m := by
  have t1 := Int.tmod_lt_of_pos n h2
  have t2 := Int.lt_tmod_of_pos n h2
  have t3 := Int.emod_nonneg n (by omega : m ≠ 0)
  have t4 := Int.emod_lt_of_pos n h2
  rw [IntWalk.wrap64_in (n.tmod m + m) ⟨by omega, by omega⟩, rem_rem n m h2, IntWalk.wrap64_in _ ⟨by omega, by omega⟩]
set_option maxRecDepth 100000 in
set_option maxHeartbeats 400000 in
theorem crash_any (p q : Nat) (d : Dk) (n : Int) (w : World) (h : DiskAt w p q d) :
    Calls Try.prog 25 #[.pointer (some ⟨p, 0, none⟩), .int .i64 n] w (CrashPost p q d n w) := by
  have HD := hid h
  obtain ⟨c0, c1, c2, c3, f1, f2, f3, o1, o2, b1, b2, b3, b4, b5⟩ := h.open_
  clear h
  have hne : ((d.cont.length : Int) - d.syn + 1 == 0) = false := beq_eq_false_iff_ne.2 (by omega)
  have E := hid (crash_val d.syn ((d.cont.length : Int) - d.syn + 1) n (by omega) (by omega) (by omega) (by omega))
  have HG : ∀ k, CrashPost p q d n w (.returned (.tuple #[])) ((((w.setCell ⟨p, 1, none⟩ (.complex .f64 (fl (d.syn + n % ((d.cont.length : Int) - d.syn + 1))) (fl (d.syn + n % ((d.cont.length : Int) - d.syn + 1))))).setCell ⟨p, 2, none⟩ (.int .i64 0)).setCell ⟨p, 3, none⟩ (.bool false)).drewN k) := by
    intro k
    have t3 := Int.emod_nonneg n (by omega : (d.cont.length : Int) - d.syn + 1 ≠ 0)
    have t4 := Int.emod_lt_of_pos n (by omega : 0 < (d.cont.length : Int) - d.syn + 1)
    have em : ((d.cont.length - d.syn + 1 : Nat) : Int) = (d.cont.length : Int) - d.syn + 1 := by omega
    refine ⟨rfl, ?_, (((Ch.refl _ _).set.set).set).drewN k⟩
    have h1 := (HD.out.mark (d.syn + (n % ((d.cont.length - d.syn + 1 : Nat) : Int)).toNat) (d.syn + (n % ((d.cont.length - d.syn + 1 : Nat) : Int)).toNat) (by rw [em]; omega) (Nat.le_refl _)).flags 0 false (Int.le_refl _) (by decide)
    have ev : ((d.syn + (n % ((d.cont.length - d.syn + 1 : Nat) : Int)).toNat : Nat) : Int) = d.syn + n % ((d.cont.length : Int) - d.syn + 1) := by rw [em]; omega
    rw [ev] at h1
    exact h1.drewN k
  have HH := hid HG
  clear HG
  go_enter Try.func25, Try.ntmps25
  go_wp2_with (first | (go_at_call 30; refine (count_any p q d _ HD.out).mono ?_; rintro e w1 ⟨rfl, rfl⟩) | (go_at_call 41; refine (synced_any p q d _ HD.out).mono ?_; rintro e w1 ⟨rfl, rfl⟩))
  go_quiet ((go_at_call 41; exact Calls.quiet_of_same ((synced_any p q d _ (HD.out.drewN _)).mono fun e w' h => ⟨h.1, h.2.symm⟩)))
  go_wp2
  go_end0
  rw [E.out]
  exact HH.out _

end Go.Proofs.Ytfhbbmaimaabnaa

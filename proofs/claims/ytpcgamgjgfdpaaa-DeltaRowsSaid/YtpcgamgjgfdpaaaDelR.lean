/- DeltaRows: its walk. -/
import Derived.Test.YtpcgamgjgfdpaaaDelK
import Derived.Deep.CutBlock
import Derived.Deep.DeepCutAuto
import Derived.Deep.WholeRow
namespace Go.Proofs.Ytpcgamgjgfdpaaa
open Go.RowKit Go.Cx
set_option linter.unusedVariables false
set_option linter.unusedSimpArgs false

def dcs (D U I V K : Int) (o : Value) (A B : Int) : Array Value := #[.int .i64 D, .int .i64 U, .int .i64 I, .int .i64 V, .int .u8 0, .int .u8 0, .int .u8 0, .int .u8 0, .int .u8 0, .int .u8 0, .int .u8 0, .int .u8 0, .int .u8 0, .int .u8 0, .int .u8 0, .int .u8 0, .int .u8 0, .int .u8 0, .int .u8 0, .int .u8 0, .int .u8 0, .int .u8 0, .int .u8 0, .int .u8 0, .int .u8 0, .int .u8 0, .int .u8 0, .int .u8 0, .int .u8 0, .int .u8 0, .int .u8 0, .int .u8 0, .int .u8 0, .int .u8 0, .int .u8 0, .int .u8 0, .int .i64 K, o, .int .i64 A, .int .i64 B]
set_option maxRecDepth 100000 in
set_option maxHeartbeats 400000 in
theorem known8_any (w : World) : Calls Try.prog 9 #[] w (True_ w) := by
  go_enter Try.func9, Try.ntmps9
  go_wp2_with (go_at_call 11; refine (check_kind 0 0 0 0 0 none 0 0 0 0 _ rfl rfl rfl (by decide)).mono ?_; rintro e w1 ⟨rfl, hc⟩; have C1 := hid hc; clear hc)
  go_ret
  exact ⟨rfl, C1.out⟩

set_option maxRecDepth 100000 in
set_option maxHeartbeats 400000 in
theorem within8_any (a n : Int) (w : World) (hn : 0 < n) (hn2 : n ≤ 1000000000000) :
    Calls Try.prog 10 #[.int .i64 a, .int .i64 n] w fun e w' => e = .returned (.int .i64 (a % n)) ∧ w = w' := by
  have h0 : (n == 0) = false := beq_eq_false_iff_ne.2 (by omega)
  have t1 := Int.tmod_lt_of_pos a hn
  have t2 := Int.lt_tmod_of_pos a hn
  have e := Int.tmod_eq_emod (a := a) (b := n)
  by_cases hs : a.tmod n < 0
  · have E : a % n = a.tmod n + n := by
      rw [e] at hs ⊢
      have := Int.emod_nonneg a (by omega : n ≠ 0)
      have := Int.emod_lt_of_pos a hn
      split at hs <;> split <;> simp_all <;> omega
    have HE := hid E
    clear E e
    go_enter Try.func10, Try.ntmps10
    go_wp2
    go_ret
    rw [HE.out]
    exact ⟨rfl, rfl⟩
  · have E : a % n = a.tmod n := by
      rw [e] at hs ⊢
      have := Int.emod_nonneg a (by omega : n ≠ 0)
      have := Int.emod_lt_of_pos a hn
      split at hs <;> split <;> simp_all <;> omega
    have HE := hid E
    clear E e
    go_enter Try.func10, Try.ntmps10
    go_wp2
    go_ret
    rw [HE.out]
    exact ⟨rfl, rfl⟩
theorem sz40 : (Try.prog.info? 30).map (·.size) = some 40 := by kernel_rfl
theorem dall (D U I V K : Int) (a : Option Addr) (n c : Nat) (A B : Int) : (dcs D U I V K (.slice a n c) A B).all (·.oneCell') = true := by
  rw [← Array.all_toList]
  rfl
set_option maxRecDepth 100000 in
set_option maxHeartbeats 4000000 in
theorem DeltaRows_walk (w : World) (x : Int) (hx : I64 x) (y : Bool) :
    Calls Try.prog 3 #[.int .i64 x, .bool y] w fun e w' => e = .returned (.bool true) ∧ Below w.heap.size w w' := by
  refine Calls.mono (R := True_ w) ?_ (fun e w' h => ⟨h.1, h.2.below0⟩)
  have K1 : (0 : Int) < 10 := by omega
  have K2 : (10 : Int) ≤ 1000000000000 := by omega
  obtain ⟨k, hk⟩ : ∃ k : Int, k = x % 10 := ⟨_, rfl⟩
  have hk2 : k = 0 ∨ k = 1 ∨ k = 2 ∨ k = 3 ∨ k = 4 ∨ k = 5 ∨ k = 6 ∨ k = 7 ∨ k = 8 ∨ k = 9 := by omega
  have XK := hid hk
  clear hk hx
  go_enter Try.func3, Try.ntmps3
  go_upto_if 11 with (go_at_call 9; refine (known8_any _).mono ?_; rintro e w1 ⟨rfl, hc1⟩; have C1 := hid hc1; clear hc1)
  go_cut [5] (fun v wc => wc = w1 ∧ ∃ n : Int, v = .int .i64 n ∧ Hid (n = if y = true then 1 else 0))
  case first =>
    cases y <;> (go_wp2; go_meet; case rel => exact ⟨rfl, _, rfl, hid rfl⟩)
  case rest =>
    obtain ⟨rfl, n, rfl, HN⟩ := hcut
    go_upto_region 6 with (fail)
    go_cut [6] (fun v wd => ∃ g, v = .pointer (some ⟨g, 0, none⟩) ∧ w.heap.size ≤ g ∧ Hid (wd.heap[g]? = some (.cells (dcs 0 0 5 6 2 (.slice none 0 0) 0 0) 30 (0, 0))) ∧ Hid (Ch (fun _ => False) w wd))
    case first => as_aux_lemma =>
      go_wp2_with (refine wpList_store_row rfl 30 _ _ rfl wc.heap.size (dcs 0 0 5 6 2 (.slice none 0 0) 0 0) rfl rfl 30 _ (heap_alloc_last wc _) sz40 rfl (dall ..) ?_; rw [World.setRow_alloc_new])
      go_meet
      case rel => exact ⟨wc.heap.size, rfl, C1.out.size, hid (alloc_blk_new _ rfl), hid (C1.out.alloc _)⟩
    case rest =>
      obtain ⟨g, rfl, hg, BLK, CC⟩ := hcut
      go_upto_block 0 with (go_at_call 10; refine (within8_any x 10 _ K1 K2).mono ?_; rintro e w2 ⟨rfl, rfl⟩; rw [← XK.out])
      go_cut [7] (fun v wd => ∃ (W D U I V K : Int) (o : Value) (A B : Int), v = .int .i64 W ∧ Hid (wd.heap[g]? = some (.cells (dcs D U I V K o A B) 30 (0, 0))) ∧ Hid (∀ w', Calls Try.prog 11 #[dl D U I V K o A B] w' (ErrPost w' (if y = true then W else 0))) ∧ Hid (Ch (fun _ => False) w wd))
      case first =>
        cases y with
        | false =>
          obtain rfl : n = 0 := HN.out
          rcases hk2 with rfl | rfl | rfl | rfl | rfl | rfl | rfl | rfl | rfl | rfl
          · as_aux_lemma =>
              have c0 : wc.cell? ⟨g, 0, none⟩ = some (.int .i64 0) := cell_blk BLK.out 0
              have f0 := frozen_blk BLK.out 0
              go_wp2
              go_meet
              case rel => exact ⟨1, 2, 0, 5, 6, 2, (.slice none 0 0), 0, 0, rfl, hid ((set_blk BLK.out 0 _).trans rfl), hid (fun w' => check_add 2 0 5 6 2 none 0 0 0 0 w' (by decide) (by decide) (by decide) (by decide) rfl), hid (CC.out.set (.inr hg))⟩
          · as_aux_lemma =>
              have c1 : wc.cell? ⟨g, 1, none⟩ = some (.int .i64 0) := cell_blk BLK.out 1
              have f1 := frozen_blk BLK.out 1
              go_wp2
              go_meet
              case rel => exact ⟨1, 0, 7, 5, 6, 2, (.slice none 0 0), 0, 0, rfl, hid ((set_blk BLK.out 1 _).trans rfl), hid (fun w' => check_add 0 7 5 6 2 none 0 0 0 0 w' (by decide) (by decide) (by decide) (by decide) rfl), hid (CC.out.set (.inr hg))⟩
          · as_aux_lemma =>
              have c2 : wc.cell? ⟨g, 2, none⟩ = some (.int .i64 5) := cell_blk BLK.out 2
              have f2 := frozen_blk BLK.out 2
              go_wp2
              go_meet
              case rel => exact ⟨1, 0, 0, 1073741824, 6, 2, (.slice none 0 0), 0, 0, rfl, hid ((set_blk BLK.out 2 _).trans rfl), hid (fun w' => check_add 0 0 1073741824 6 2 none 0 0 0 0 w' (by decide) (by decide) (by decide) (by decide) rfl), hid (CC.out.set (.inr hg))⟩
          · as_aux_lemma =>
              have c2 : wc.cell? ⟨g, 2, none⟩ = some (.int .i64 5) := cell_blk BLK.out 2
              have f2 := frozen_blk BLK.out 2
              go_wp2
              go_meet
              case rel => exact ⟨1, 0, 0, 0, 6, 2, (.slice none 0 0), 0, 0, rfl, hid ((set_blk BLK.out 2 _).trans rfl), hid (fun w' => check_add 0 0 0 6 2 none 0 0 0 0 w' (by decide) (by decide) (by decide) (by decide) rfl), hid (CC.out.set (.inr hg))⟩
          · as_aux_lemma =>
              have c3 : wc.cell? ⟨g, 3, none⟩ = some (.int .i64 6) := cell_blk BLK.out 3
              have f3 := frozen_blk BLK.out 3
              go_wp2
              go_meet
              case rel => exact ⟨1, 0, 0, 5, 1048576, 2, (.slice none 0 0), 0, 0, rfl, hid ((set_blk BLK.out 3 _).trans rfl), hid (fun w' => check_add 0 0 5 1048576 2 none 0 0 0 0 w' (by decide) (by decide) (by decide) (by decide) rfl), hid (CC.out.set (.inr hg))⟩
          · as_aux_lemma =>
              have c3 : wc.cell? ⟨g, 3, none⟩ = some (.int .i64 6) := cell_blk BLK.out 3
              have f3 := frozen_blk BLK.out 3
              go_wp2
              go_meet
              case rel => exact ⟨1, 0, 0, 5, 0, 2, (.slice none 0 0), 0, 0, rfl, hid ((set_blk BLK.out 3 _).trans rfl), hid (fun w' => check_add 0 0 5 0 2 none 0 0 0 0 w' (by decide) (by decide) (by decide) (by decide) rfl), hid (CC.out.set (.inr hg))⟩
          · as_aux_lemma =>
              have c39 : wc.cell? ⟨g, 39, none⟩ = some (.int .i64 0) := cell_blk BLK.out 39
              have f39 := frozen_blk BLK.out 39
              go_wp2
              go_meet
              case rel => exact ⟨1, 0, 0, 5, 6, 2, (.slice none 0 0), 0, 7, rfl, hid ((set_blk BLK.out 39 _).trans rfl), hid (fun w' => check_add 0 0 5 6 2 none 0 0 0 7 w' (by decide) (by decide) (by decide) (by decide) rfl), hid (CC.out.set (.inr hg))⟩
          · as_aux_lemma =>
              have c36 : wc.cell? ⟨g, 36, none⟩ = some (.int .i64 2) := cell_blk BLK.out 36
              have f36 := frozen_blk BLK.out 36
              go_wp2
              go_meet
              case rel => exact ⟨3, 0, 0, 5, 6, 3, (.slice none 0 0), 0, 0, rfl, hid ((set_blk BLK.out 36 _).trans rfl), hid (fun w' => check_add 0 0 5 6 3 none 0 0 0 0 w' (by decide) (by decide) (by decide) (by decide) rfl), hid (CC.out.set (.inr hg))⟩
          · as_aux_lemma =>
              go_wp2
              go_meet
              case rel => exact ⟨1, 0, 0, 5, 6, 2, (.slice none 0 0), 0, 0, rfl, hid (BLK.out), hid (fun w' => check_add 0 0 5 6 2 none 0 0 0 0 w' (by decide) (by decide) (by decide) (by decide) rfl), hid (CC.out)⟩
          · as_aux_lemma =>
              have c36 : wc.cell? ⟨g, 36, none⟩ = some (.int .i64 2) := cell_blk BLK.out 36
              have f36 := frozen_blk BLK.out 36
              have c39 : wc.cell? ⟨g, 39, none⟩ = some (.int .i64 0) := cell_blk BLK.out 39
              have f39 := frozen_blk BLK.out 39
              have c39' : (wc.setCell ⟨g, 36, none⟩ (.int .i64 1)).cell? ⟨g, 39, none⟩ = some (.int .i64 0) := cell_blk (set_blk BLK.out 36 _) 39
              have f39' := frozen_blk (set_blk BLK.out 36 (.int .i64 1)) 39
              go_wp2
              go_meet
              case rel => exact ⟨1, 0, 0, 5, 6, 1, (.slice none 0 0), 0, 0, rfl, hid ((set_blk (set_blk BLK.out 36 _) 39 _).trans rfl), hid (fun w' => check_edit 0 0 5 6 0 0 w' (by decide) (by decide) (by decide) rfl (.inl rfl)), hid ((CC.out.set (.inr hg)).set (.inr hg))⟩
        | true =>
          obtain rfl : n = 1 := HN.out
          rcases hk2 with rfl | rfl | rfl | rfl | rfl | rfl | rfl | rfl | rfl | rfl
          · as_aux_lemma =>
              have c0 : wc.cell? ⟨g, 0, none⟩ = some (.int .i64 0) := cell_blk BLK.out 0
              have f0 := frozen_blk BLK.out 0
              go_wp2
              go_meet
              case rel => exact ⟨1, 3, 0, 5, 6, 2, (.slice none 0 0), 0, 0, rfl, hid ((set_blk BLK.out 0 _).trans rfl), hid (fun w' => check_bad 3 0 5 6 2 none 0 0 0 0 w' (by decide)), hid (CC.out.set (.inr hg))⟩
          · as_aux_lemma =>
              have c1 : wc.cell? ⟨g, 1, none⟩ = some (.int .i64 0) := cell_blk BLK.out 1
              have f1 := frozen_blk BLK.out 1
              go_wp2
              go_meet
              case rel => exact ⟨1, 0, 8, 5, 6, 2, (.slice none 0 0), 0, 0, rfl, hid ((set_blk BLK.out 1 _).trans rfl), hid (fun w' => check_bad 0 8 5 6 2 none 0 0 0 0 w' (by decide)), hid (CC.out.set (.inr hg))⟩
          · as_aux_lemma =>
              have c2 : wc.cell? ⟨g, 2, none⟩ = some (.int .i64 5) := cell_blk BLK.out 2
              have f2 := frozen_blk BLK.out 2
              go_wp2
              go_meet
              case rel => exact ⟨1, 0, 0, 1073741825, 6, 2, (.slice none 0 0), 0, 0, rfl, hid ((set_blk BLK.out 2 _).trans rfl), hid (fun w' => check_id 0 0 1073741825 6 2 none 0 0 0 0 w' (by decide) (by decide)), hid (CC.out.set (.inr hg))⟩
          · as_aux_lemma =>
              have c2 : wc.cell? ⟨g, 2, none⟩ = some (.int .i64 5) := cell_blk BLK.out 2
              have f2 := frozen_blk BLK.out 2
              go_wp2
              go_meet
              case rel => exact ⟨1, 0, 0, (-1), 6, 2, (.slice none 0 0), 0, 0, rfl, hid ((set_blk BLK.out 2 _).trans rfl), hid (fun w' => check_id 0 0 (-1) 6 2 none 0 0 0 0 w' (by decide) (by decide)), hid (CC.out.set (.inr hg))⟩
          · as_aux_lemma =>
              have c3 : wc.cell? ⟨g, 3, none⟩ = some (.int .i64 6) := cell_blk BLK.out 3
              have f3 := frozen_blk BLK.out 3
              go_wp2
              go_meet
              case rel => exact ⟨1, 0, 0, 5, 1048577, 2, (.slice none 0 0), 0, 0, rfl, hid ((set_blk BLK.out 3 _).trans rfl), hid (fun w' => check_ver 0 0 5 1048577 2 none 0 0 0 0 w' (by decide) (by decide) (by decide)), hid (CC.out.set (.inr hg))⟩
          · as_aux_lemma =>
              have c3 : wc.cell? ⟨g, 3, none⟩ = some (.int .i64 6) := cell_blk BLK.out 3
              have f3 := frozen_blk BLK.out 3
              go_wp2
              go_meet
              case rel => exact ⟨1, 0, 0, 5, (-1), 2, (.slice none 0 0), 0, 0, rfl, hid ((set_blk BLK.out 3 _).trans rfl), hid (fun w' => check_ver 0 0 5 (-1) 2 none 0 0 0 0 w' (by decide) (by decide) (by decide)), hid (CC.out.set (.inr hg))⟩
          · as_aux_lemma =>
              have c39 : wc.cell? ⟨g, 39, none⟩ = some (.int .i64 0) := cell_blk BLK.out 39
              have f39 := frozen_blk BLK.out 39
              go_wp2
              go_meet
              case rel => exact ⟨1, 0, 0, 5, 6, 2, (.slice none 0 0), 0, 8, rfl, hid ((set_blk BLK.out 39 _).trans rfl), hid (fun w' => check_add 0 0 5 6 2 none 0 0 0 8 w' (by decide) (by decide) (by decide) (.inl rfl) rfl), hid (CC.out.set (.inr hg))⟩
          · as_aux_lemma =>
              have c36 : wc.cell? ⟨g, 36, none⟩ = some (.int .i64 2) := cell_blk BLK.out 36
              have f36 := frozen_blk BLK.out 36
              go_wp2
              go_meet
              case rel => exact ⟨3, 0, 0, 5, 6, 4, (.slice none 0 0), 0, 0, rfl, hid ((set_blk BLK.out 36 _).trans rfl), hid (fun w' => check_kind 0 0 5 6 4 none 0 0 0 0 w' (by decide) (by decide) (by decide) (by decide)), hid (CC.out.set (.inr hg))⟩
          · as_aux_lemma =>
              have BL2 := hid (((Ch.refl (fun _ => False) wc).alloc (.cells #[.int .i64 2, .int .i64 0, .string ⟨#[120]⟩] 34)).heap BLK.out id)
              have c37 : (wc.alloc (.cells #[.int .i64 2, .int .i64 0, .string ⟨#[120]⟩] 34)).cell? ⟨g, 37, none⟩ = some (.slice none 0 0) := cell_blk BL2.out 37
              have f37 := frozen_blk BL2.out 37
              go_wp2
              go_meet
              case rel => exact ⟨1, 0, 0, 5, 6, 2, (.slice (some ⟨wc.heap.size, 0, none⟩) 1 1), 0, 0, rfl, hid ((set_blk BL2.out 37 _).trans rfl), hid (fun w' => check_full 0 0 5 6 2 _ 1 1 0 0 w' (by decide) (by decide) (by decide) (.inl rfl) (by decide)), hid ((CC.out.alloc _).set (.inr hg))⟩
          · as_aux_lemma =>
              have c36 : wc.cell? ⟨g, 36, none⟩ = some (.int .i64 2) := cell_blk BLK.out 36
              have f36 := frozen_blk BLK.out 36
              have c39 : wc.cell? ⟨g, 39, none⟩ = some (.int .i64 0) := cell_blk BLK.out 39
              have f39 := frozen_blk BLK.out 39
              have c39' : (wc.setCell ⟨g, 36, none⟩ (.int .i64 1)).cell? ⟨g, 39, none⟩ = some (.int .i64 0) := cell_blk (set_blk BLK.out 36 _) 39
              have f39' := frozen_blk (set_blk BLK.out 36 (.int .i64 1)) 39
              go_wp2
              go_meet
              case rel => exact ⟨1, 0, 0, 5, 6, 1, (.slice none 0 0), 0, 1, rfl, hid ((set_blk (set_blk BLK.out 36 _) 39 _).trans rfl), hid (fun w' => check_edit 0 0 5 6 0 1 w' (by decide) (by decide) (by decide) rfl (.inr rfl)), hid ((CC.out.set (.inr hg)).set (.inr hg))⟩
      case rest =>
        obtain ⟨W, D, U, I, V, K, o, A, B, rfl, BLK, CHK, CC⟩ := hcut
        go_upto_region 31 with (first
          | (refine wpList_load_row rfl 30 _ rfl g rfl 30 (dcs D U I V K o A B) (0, 0) _ BLK.out Try.underlying30 rfl sz40 ?_)
          | (go_at_call 11; refine (CHK.out _).mono ?_; rintro e w3 ⟨rfl, hc3⟩; have C3 := hid (CC.out.f hc3); clear hc3))
        cases y with
        | false =>
          go_wp2
          go_ret
          exact ⟨by simp, C3.out⟩
        | true =>
          go_wp2
          go_ret
          exact ⟨by simp, C3.out⟩
end Go.Proofs.Ytpcgamgjgfdpaaa

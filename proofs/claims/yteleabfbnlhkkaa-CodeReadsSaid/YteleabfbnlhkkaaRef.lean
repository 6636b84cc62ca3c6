/- comitiaref1's Reader. -/
import Derived.Test.YteleabfbnlhkkaaReadE
import Derived.Deep.QuietTactic
namespace Go.Proofs.Yteleabfbnlhkkaa
open Go.RowKit Go.Cx
set_option linter.unusedVariables false
set_option linter.unusedSimpArgs false

/-- The document's reader: its cells. -/
def RC (w : World) (q : Nat) (a : Option Addr) (n c : Nat) (P : Nat) (e : Int) : Prop :=
  w.heap[q]? = some (.cells #[.slice a n c, .int .i64 P, .int .i64 e] 56 (0, 0))
def RNewPost (w : World) (a : Option Addr) (n c : Nat) (e : Ending) (w' : World) : Prop :=
  ∃ q, e = .returned (.pointer (some ⟨q, 0, none⟩)) ∧ RC w' q a n c 0 0 ∧ w.heap.size ≤ q ∧ Ch (fun _ => False) w w'
set_option maxRecDepth 100000 in
set_option maxHeartbeats 400000 in
theorem xnew_any (a : Option Addr) (n c : Nat) (w : World) : Calls Try.prog 24 #[.slice a n c] w (RNewPost w a n c) := by
  go_enter Try.func24, Try.ntmps24
  go_wp2
  go_ret
  exact ⟨_, rfl, alloc_blk_new _ rfl, Nat.le_refl _, (Ch.refl _ w).alloc _⟩
def XPost (w : World) (q : Nat) (a : Option Addr) (n c P : Nat) (e : Int) (v : Value) (en : Ending) (w' : World) : Prop := en = .returned v ∧ RC w' q a n c P e ∧ Ch (fun k => k = q) w w'
set_option maxRecDepth 100000 in
set_option maxHeartbeats 400000 in
theorem xfail_any (q : Nat) (a : Option Addr) (n c P : Nat) (e e' : Int) (w : World) (h1 : RC w q a n c P e) :
    Calls Try.prog 29 #[.pointer (some ⟨q, 0, none⟩), .int .i64 e'] w (XPost w q a n c P (er e e') (.tuple #[])) := by
  have c1 : w.cell? ⟨q, 2, none⟩ = some (.int .i64 e) := cell_blk h1 2
  have f1 := frozen_blk h1 2
  by_cases he : e = 0
  · have hst : w.cell? ⟨q, 2, none⟩ = some (.int .i64 0) := by rw [c1, he]
    have G : XPost w q a n c P (er e e') (.tuple #[]) (.returned (.tuple #[])) (w.setCell ⟨q, 2, none⟩ (.int .i64 e')) := by
      refine ⟨rfl, ?_, (Ch.refl _ w).set⟩
      unfold RC; rw [set_blk h1]; simp [er, he]
    have HG := hid G
    clear h1 G c1
    go_enter Try.func29, Try.ntmps29
    go_wp2
    go_end0
    exact HG.out
  · have hb : (e == 0) = false := beq_eq_false_iff_ne.2 he
    have G : XPost w q a n c P (er e e') (.tuple #[]) (.returned (.tuple #[])) w := ⟨rfl, by unfold RC; rw [h1]; simp [er, he], Ch.refl _ _⟩
    have HG := hid G
    clear h1 G
    go_enter Try.func29, Try.ntmps29
    go_wp2
    go_end0
    exact HG.out
set_option maxRecDepth 100000 in
set_option maxHeartbeats 800000 in
theorem xend_any (q : Nat) (a : Option Addr) (n c P : Nat) (e : Int) (L : List UInt8) (w : World) (h1 : RC w q a n c P e) (hL : n = L.length) :
    Calls Try.prog 30 #[.pointer (some ⟨q, 0, none⟩)] w (XPost w q a n c P e (.int .i64 (endOf (L.drop P) e))) := by
  have c0 : w.cell? ⟨q, 0, none⟩ = some (.slice a n c) := cell_blk h1 0
  have c1 : w.cell? ⟨q, 1, none⟩ = some (.int .i64 P) := cell_blk h1 1
  have c2 : w.cell? ⟨q, 2, none⟩ = some (.int .i64 e) := cell_blk h1 2
  have H := hid h1
  clear h1
  by_cases he : e = 0
  · subst he
    rcases Nat.lt_or_ge P n with hp | hp
    · have hpi : (P : Int) < n := by omega
      have hd : L.drop P ≠ [] := by intro h; rw [List.drop_eq_nil_iff] at h; omega
      have HE := hid (show endOf (L.drop P) 0 = 9 by simp [endOf, hd])
      clear hd hL
      go_enter Try.func30, Try.ntmps30
      go_wp2
      go_quiet (fail)
      go_wp2
      go_ret
      exact ⟨by rw [HE.out]; rfl, H.out, (Ch.refl _ w).drewN _⟩
    · have hpi : ¬ ((P : Int) < n) := by omega
      have hd : L.drop P = [] := by rw [List.drop_eq_nil_iff]; omega
      have HE := hid (show endOf (L.drop P) 0 = 0 by simp [endOf, hd])
      clear hd hL
      go_enter Try.func30, Try.ntmps30
      go_wp2
      go_quiet (fail)
      go_wp2
      go_ret
      exact ⟨by rw [HE.out]; rfl, H.out, (Ch.refl _ w).drewN _⟩
  · have hb : (e == 0) = false := beq_eq_false_iff_ne.2 he
    have HE := hid (endOf_ne he (L.drop P))
    clear he hL
    go_enter Try.func30, Try.ntmps30
    go_wp2
    go_quiet (fail)
    go_wp2
    go_ret
    exact ⟨by rw [HE.out]; rfl, H.out, (Ch.refl _ w).drewN _⟩

/-! ### take -/
def XTake (w : World) (q : Nat) (a : Option Addr) (n c P : Nat) (l : List UInt8) (k : Nat) (en : Ending) (w' : World) : Prop :=
  ∃ a' c', en = .returned (.slice a' k c') ∧ Sl w' 1 a' k c' (bv l) ∧ RC w' q a n c P 0 ∧ Ch (fun k => k = q) w w'
set_option maxRecDepth 100000 in
set_option maxHeartbeats 800000 in
theorem xtake_bad (q : Nat) (a : Option Addr) (n c P : Nat) (e : Int) (k : Nat) (w : World) (h1 : RC w q a n c P e) (hP : P ≤ n) (hn : n ≤ 1000000) (hb : e ≠ 0 ∨ n - P < k) :
    Calls Try.prog 35 #[.pointer (some ⟨q, 0, none⟩), .int .i64 k] w (XPost w q a n c P (er e 8) (.slice none 0 0)) := by
  have c0 : w.cell? ⟨q, 0, none⟩ = some (.slice a n c) := cell_blk h1 0
  have c1 : w.cell? ⟨q, 1, none⟩ = some (.int .i64 P) := cell_blk h1 1
  have c2 : w.cell? ⟨q, 2, none⟩ = some (.int .i64 e) := cell_blk h1 2
  have f2 := frozen_blk h1 2
  have H := hid h1
  by_cases he : e = 0
  · subst he
    have hlt : (n : Int) - P < k := by omega
    have hw : IntKind.i64.wrap ((n : Int) - P) = (n : Int) - P := by rw [IntKind.wrap_i64]; omega
    have G : ∀ i, XPost w q a n c P (er 0 8) (.slice none 0 0) (.returned (.slice none 0 0)) ((w.drewN i).setCell ⟨q, 2, none⟩ (.int .i64 8)) := by
      intro i
      refine ⟨rfl, ?_, ((Ch.refl _ w).drewN i).set⟩
      unfold RC; rw [set_blk (w := w.drewN i) h1]; rfl
    have HG := hid G
    clear h1 G hb
    go_enter Try.func35, Try.ntmps35
    go_wp2
    go_quiet (fail)
    go_wp2
    go_ret
    exact HG.out _
  · have hb' : (e == 0) = false := beq_eq_false_iff_ne.2 he
    have G : XPost w q a n c P (er e 8) (.slice none 0 0) (.returned (.slice none 0 0)) w := ⟨rfl, by rw [er_ne he]; exact h1, Ch.refl _ _⟩
    have HG := hid G
    have HE := hid (er_ne he 8)
    clear h1 G hb he
    go_enter Try.func35, Try.ntmps35
    go_wp2
    go_quiet (fail)
    go_wp2
    go_ret
    exact ⟨rfl, by rw [HE.out]; exact H.out, (Ch.refl _ w).drewN _⟩
set_option maxRecDepth 100000 in
set_option maxHeartbeats 800000 in
theorem xtake_ok (q : Nat) (a : Option Addr) (n c P : Nat) (L : List UInt8) (k : Nat) (w : World) (h1 : RC w q a n c P 0) (hn : n ≤ 1000000) (hk : P + k ≤ n) (hS : ∀ w', Ch (fun k => k = q) w w' → Sl w' 1 a n c (bv L)) :
    Calls Try.prog 35 #[.pointer (some ⟨q, 0, none⟩), .int .i64 k] w (XTake w q a n c (P + k) ((L.drop P).take k) k) := by
  have c0 : w.cell? ⟨q, 0, none⟩ = some (.slice a n c) := cell_blk h1 0
  have c1 : w.cell? ⟨q, 1, none⟩ = some (.int .i64 P) := cell_blk h1 1
  have c2 : w.cell? ⟨q, 2, none⟩ = some (.int .i64 0) := cell_blk h1 2
  have f1 := frozen_blk h1 1
  have hlt : ¬ ((n : Int) - P < k) := by omega
  have hw : IntKind.i64.wrap ((n : Int) - P) = (n : Int) - P := by rw [IntKind.wrap_i64]; omega
  have hw2 : IntKind.i64.wrap ((P : Int) + k) = (P : Int) + k := by rw [IntKind.wrap_i64]; omega
  have hw3 : IntKind.i64.wrap ((P : Int) + k - k) = P := by rw [IntKind.wrap_i64]; omega
  have hnc : n ≤ c := (hS w (Ch.refl _ _)).2.1
  have i1 : (0 : Int) ≤ P := by omega
  have i2 : (P : Int) ≤ P + k := by omega
  have i3 : (P : Int) + k ≤ c := by omega
  have i4 : ((P : Int) + k).toNat = P + k := by omega
  have hC : ∀ i j, Ch (fun k => k = q) w (((w.drewN i).setCell ⟨q, 1, none⟩ (.int .i64 ((P : Int) + k))).drewN j) := fun i j => (Ch.set ((Ch.refl _ w).drewN i)).drewN j
  have hR : ∀ i j, RC (((w.drewN i).setCell ⟨q, 1, none⟩ (.int .i64 ((P : Int) + k))).drewN j) q a n c (P + k) 0 := by
    intro i j
    have : ((w.drewN i).setCell ⟨q, 1, none⟩ (.int .i64 ((P : Int) + k))).heap[q]? = _ := set_blk (w := w.drewN i) h1 1 _
    unfold RC
    show ((w.drewN i).setCell ⟨q, 1, none⟩ (.int .i64 ((P : Int) + k))).heap[q]? = _
    rw [this]; simp
  by_cases hcP : c = P
  · have hk0 : k = 0 := by omega
    have G : ∀ i j, XTake w q a n c (P + k) ((L.drop P).take k) k (.returned (.slice a k (c - P))) (((w.drewN i).setCell ⟨q, 1, none⟩ (.int .i64 ((P : Int) + k))).drewN j) := by
      intro i j
      refine ⟨_, _, rfl, ?_, hR i j, hC i j⟩
      subst hk0
      exact ⟨by simp [bv], by omega, by unfold maxLen; omega, fun _ => by omega, fun b hb j u hu => by simp [bv] at hu⟩
    have HG := hid G
    have T1 : (if c = P then a else Option.map (fun x => x.add P) a) = a := if_pos hcP
    have HCP := hid hcP
    have HK0 := hid hk0
    clear h1 hS hC hR G hcP hk0
    go_enter Try.func35, Try.ntmps35
    go_wp2
    go_quiet (fail)
    go_wp2
    go_quiet (fail)
    go_wp2
    go_ret
    exact HG.out _ _
  · have G : ∀ i j, XTake w q a n c (P + k) ((L.drop P).take k) k (.returned (.slice (Option.map (fun x => x.add P) a) k (c - P))) (((w.drewN i).setCell ⟨q, 1, none⟩ (.int .i64 ((P : Int) + k))).drewN j) := by
      intro i j
      refine ⟨_, _, rfl, ?_, hR i j, hC i j⟩
      rw [bv_take, bv_drop]
      exact (Sl_drop (hS _ (hC i j)) P (by omega)).take k (by omega)
    have HG := hid G
    clear h1 hS hC hR G
    go_enter Try.func35, Try.ntmps35
    go_wp2
    go_quiet (fail)
    go_wp2
    go_quiet (fail)
    go_wp2
    go_ret
    exact HG.out _ _
end Go.Proofs.Yteleabfbnlhkkaa

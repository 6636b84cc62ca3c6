/- code's Reader. -/
import Derived.Test.YteleabfbnlhkkaaCodeL
namespace Go.Proofs.Yteleabfbnlhkkaa
open Go.RowKit Go.Cx
set_option linter.unusedVariables false
set_option linter.unusedSimpArgs false

/-- A reader: what is left, and its error. -/
def Rd (w : World) (p : Nat) (l : List UInt8) (e : Int) : Prop :=
  ∃ a n c, w.heap[p]? = some (.cells #[.slice a n c, .int .i64 e] 52 (0, 0)) ∧ Sl w 1 a n c (bv l) ∧ (∀ b, a = some b → b.block ≠ p) ∧ n = l.length ∧ n ≤ 1000000
theorem Rd.ch {S : Nat → Prop} {w w' : World} {p : Nat} {l : List UInt8} {e : Int} (B : Nat) (h : Rd w p l e) (hc : Ch S w w') (hs : ∀ k, ¬ S k) : Rd w' p l e := by
  obtain ⟨a, n, c, h1, h2, h3⟩ := h
  exact ⟨a, n, c, hc.heap h1 (hs p), h2.ch hc (fun b _ => hs _), h3⟩
theorem Rd.f {w w' : World} {p : Nat} {l : List UInt8} {e : Int} (h : Rd w p l e) (hc : Ch (fun _ => False) w w') : Rd w' p l e := h.ch 0 hc (fun _ => id)
theorem Sl_len {w : World} {a : Option Addr} {n c : Nat} {l : List UInt8} (h : Sl w 1 a n c (bv l)) : n = l.length := by have := h.1; simpa [bv_length] using this.symm

/-! ### New -/
def NewPost (w : World) (l : List UInt8) (e : Ending) (w' : World) : Prop :=
  ∃ p, e = .returned (.pointer (some ⟨p, 0, none⟩)) ∧ Rd w' p l 0 ∧ w.heap.size ≤ p ∧ Ch (fun _ => False) w w'
set_option maxRecDepth 100000 in
set_option maxHeartbeats 400000 in
theorem new1_any (a : Option Addr) (n c : Nat) (l : List UInt8) (w : World) (h : Sl w 1 a n c (bv l)) (hn : n ≤ 1000000) :
    Calls Try.prog 19 #[.slice a n c] w (NewPost w l) := by
  have H := hid h
  have e := hid (Sl_len h)
  clear h
  go_enter Try.func19, Try.ntmps19
  go_wp2_with (go_at_call 31; refine (clone_any a n c _ _ H.out (bv_one _) (by omega)).mono ?_; rintro e w1 ⟨a1, c1, rfl, ho1, hc1⟩; have O1 := hid ho1; have C1 := hid hc1; clear ho1 hc1)
  go_ret
  have hs := C1.out.size
  exact ⟨_, rfl, ⟨a1, n, c1, alloc_blk_new _ rfl, O1.out.sl.ch ((Ch.refl (fun _ => False) w1).alloc _) (fun _ _ => id), fun b hb => by have := (O1.out.block b hb).2; omega, e.out, hn⟩, hs, C1.out.alloc _⟩

/-! ### Fail, End -/
def er (e e' : Int) : Int := if e = 0 then e' else e
def FailPost (w : World) (p : Nat) (l : List UInt8) (e : Int) (en : Ending) (w' : World) : Prop := en = .returned (.tuple #[]) ∧ Rd w' p l e ∧ Ch (fun k => k = p) w w'
set_option maxRecDepth 100000 in
set_option maxHeartbeats 400000 in
theorem fail_any (p : Nat) (l : List UInt8) (e e' : Int) (w : World) (h : Rd w p l e) :
    Calls Try.prog 28 #[.pointer (some ⟨p, 0, none⟩), .int .i64 e'] w (FailPost w p l (er e e')) := by
  obtain ⟨a, n, c, h1, h2, h3⟩ := h
  have c1 : w.cell? ⟨p, 1, none⟩ = some (.int .i64 e) := cell_blk h1 1
  have f1 := frozen_blk h1 1
  by_cases he : e = 0
  · have hb : (e == 0) = true := by rw [he]; rfl
    have hst : w.cell? ⟨p, 1, none⟩ = some (.int .i64 0) := by rw [c1, he]
    have G : FailPost w p l (er e e') (.returned (.tuple #[])) (w.setCell ⟨p, 1, none⟩ (.int .i64 e')) := by
      refine ⟨rfl, ⟨a, n, c, ?_, ?_, h3⟩, (Ch.refl _ w).set⟩
      · rw [set_blk h1]; simp [er, he]
      · exact h2.ch (S := fun k => k = p) (Ch.refl _ w).set (fun b hb e => h3.1 b hb e)
    have HG := hid G
    clear h1 h2 h3 G c1 hb
    go_enter Try.func28, Try.ntmps28
    go_wp2
    go_end0
    exact HG.out
  · have hb : (e == 0) = false := beq_eq_false_iff_ne.2 he
    have G : FailPost w p l (er e e') (.returned (.tuple #[])) w := ⟨rfl, ⟨a, n, c, by rw [h1]; simp [er, he], h2, h3⟩, Ch.refl _ _⟩
    have HG := hid G
    clear h1 h2 h3 G
    go_enter Try.func28, Try.ntmps28
    go_wp2
    go_end0
    exact HG.out
def endOf (l : List UInt8) (e : Int) : Int := if e = 0 ∧ l ≠ [] then 9 else e
set_option maxRecDepth 100000 in
set_option maxHeartbeats 400000 in
theorem end_any (p : Nat) (l : List UInt8) (e : Int) (w : World) (h : Rd w p l e) :
    Calls Try.prog 22 #[.pointer (some ⟨p, 0, none⟩)] w fun en w' => en = .returned (.int .i64 (endOf l e)) ∧ w = w' := by
  obtain ⟨a, n, c, h1, h2, h3, h4, h5⟩ := h
  have c0 : w.cell? ⟨p, 0, none⟩ = some (.slice a n c) := cell_blk h1 0
  have c1 : w.cell? ⟨p, 1, none⟩ = some (.int .i64 e) := cell_blk h1 1
  clear h1 h2 h3
  by_cases he : e = 0
  · subst he
    cases l with
    | nil =>
      have h0 : n = 0 := h4
      subst h0
      clear h4
      go_enter Try.func22, Try.ntmps22
      go_wp2
      go_ret
      exact ⟨by simp [endOf], rfl⟩
    | cons b l =>
      have h0 : 0 < n := by rw [h4]; simp
      have h0' : (0 : Int) < n := by omega
      clear h4
      go_enter Try.func22, Try.ntmps22
      go_wp2
      go_ret
      exact ⟨by simp [endOf], rfl⟩
  · have hb : (e == 0) = false := beq_eq_false_iff_ne.2 he
    have HE := hid he
    clear h4 he
    go_enter Try.func22, Try.ntmps22
    go_wp2
    go_ret
    exact ⟨by simp [endOf, HE.out], rfl⟩

/-! ### take -/
def TakeOk (w : World) (p : Nat) (l : List UInt8) (k : Nat) (en : Ending) (w' : World) : Prop :=
  ∃ a' c', en = .returned (.slice a' k c') ∧ Sl w' 1 a' k c' (bv (l.take k)) ∧ Rd w' p (l.drop k) 0 ∧ Ch (fun k => k = p) w w'
def TakeBad (w : World) (p : Nat) (l : List UInt8) (e : Int) (en : Ending) (w' : World) : Prop :=
  en = .returned (.slice none 0 0) ∧ Rd w' p l (er e 8) ∧ Ch (fun k => k = p) w w'
set_option maxRecDepth 100000 in
set_option maxHeartbeats 400000 in
theorem take_bad (p : Nat) (l : List UInt8) (e : Int) (k : Nat) (w : World) (h : Rd w p l e) (hb : e ≠ 0 ∨ l.length < k) :
    Calls Try.prog 34 #[.pointer (some ⟨p, 0, none⟩), .int .i64 k] w (TakeBad w p l e) := by
  have H := hid h
  obtain ⟨a, n, c, h1, h2, h3, h4, h5⟩ := h
  have c0 : w.cell? ⟨p, 0, none⟩ = some (.slice a n c) := cell_blk h1 0
  rcases Nat.lt_or_ge n k with hnk | hnk
  · clear h1 h2 h3 h4 hb
    have he8 : er e 8 ≠ 0 := by unfold er; split <;> omega
    have hb8 : (er e 8 == 0) = false := beq_eq_false_iff_ne.2 he8
    go_enter Try.func34, Try.ntmps34
    go_wp2_with (go_at_call 28; refine (fail_any p l e 8 _ H.out).mono ?_; rintro en w1 ⟨rfl, hr, hc⟩; obtain ⟨a', n', c', g1, g2, g3⟩ := id hr; have c1 : w1.cell? ⟨p, 1, none⟩ = some (.int .i64 (er e 8)) := cell_blk g1 1; have R := hid hr; have C := hid hc; clear g1 g2 g3 hr hc)
    go_ret
    exact ⟨rfl, R.out, C.out⟩
  · have he : e ≠ 0 := by rcases hb with h | h; exact h; omega
    have c1 : w.cell? ⟨p, 1, none⟩ = some (.int .i64 e) := cell_blk h1 1
    have hbe : (e == 0) = false := beq_eq_false_iff_ne.2 he
    have hee : er e 8 = e := by unfold er; rw [if_neg he]
    have HE := hid hee
    clear h1 h2 h3 h4 hb hee
    go_enter Try.func34, Try.ntmps34
    go_wp2
    go_ret
    exact ⟨rfl, by rw [HE.out]; exact H.out, Ch.refl _ _⟩
theorem Sl_drop {w : World} {a : Option Addr} {n c : Nat} {xs : List Value} (h : Sl w 1 a n c xs) (k : Nat) (hk : k ≤ n) : Sl w 1 (a.map fun x => x.add k) (n - k) (c - k) (xs.drop k) := by
  obtain ⟨h1, h2, h3, h4, h5⟩ := id h
  refine ⟨by rw [List.length_drop, h1]; omega, by omega, by omega, fun e => ?_, ?_⟩
  · cases a with
    | none => have := h4 rfl; omega
    | some b => cases e
  · rintro b hb j u hu
    rw [List.getElem?_drop] at hu
    obtain ⟨b0, o, rfl⟩ := h.spot (by intro e; rw [e] at hu; simp at hu)
    simp only [Option.map_some, Option.some.injEq] at hb
    subst hb
    rw [add_eq, add_eq, Nat.add_assoc, ← add_eq]
    exact h5 _ rfl _ u hu
theorem take_fin {w : World} {p : Nat} {l : List UInt8} {k n c c2 : Nat} {a a2 : Option Addr} (h1 : w.heap[p]? = some (.cells #[.slice a n c, .int .i64 0] 52 (0, 0))) (h2 : Sl w 1 a n c (bv l)) (h3 : ∀ b, a = some b → b.block ≠ p) (h4 : n = l.length) (h5 : n ≤ 1000000)
    (hk : k ≤ n) (g : Sl w 1 a2 (n - k) c2 (bv (l.drop k))) (g2 : ∀ b, a2 = some b → b.block ≠ p) :
    TakeOk w p l k (.returned (.slice a k c)) (w.setCell ⟨p, 0, none⟩ (.slice a2 (n - k) c2)) := by
  refine ⟨a, c, rfl, ?_, ⟨a2, n - k, c2, ?_, g.ch (S := fun k => k = p) (Ch.refl _ w).set (fun b hb e => g2 b hb e), g2, by rw [List.length_drop]; omega, by omega⟩, (Ch.refl _ w).set⟩
  · rw [bv_take]; exact (h2.take k hk).ch (S := fun k => k = p) (Ch.refl _ w).set (fun b hb e => h3 b hb e)
  · rw [set_blk h1]; simp
set_option maxRecDepth 100000 in
set_option maxHeartbeats 400000 in
theorem take_ok (p : Nat) (l : List UInt8) (k : Nat) (w : World) (h : Rd w p l 0) (hk : k ≤ l.length) :
    Calls Try.prog 34 #[.pointer (some ⟨p, 0, none⟩), .int .i64 k] w (TakeOk w p l k) := by
  obtain ⟨a, n, c, h1, h2, h3, h4, h5⟩ := h
  have c0 : w.cell? ⟨p, 0, none⟩ = some (.slice a n c) := cell_blk h1 0
  have c1 : w.cell? ⟨p, 1, none⟩ = some (.int .i64 0) := cell_blk h1 1
  have f0 := frozen_blk h1 0
  have hnk : k ≤ n := by omega
  have hkc : k ≤ c := Nat.le_trans hnk h2.2.1
  have i1 : (0 : Int) ≤ k := by omega
  have i2 : (k : Int) ≤ c := by omega
  have i3 : (k : Int) ≤ n := by omega
  have i4 : (n : Int) ≤ c := by have := h2.2.1; omega
  have hle : ¬ ((k : Int) > n) := by omega
  have hts : (k : Int).toNat = k := by omega
  have H1 := hid h1
  have H2 := hid h2
  have H3 := hid h3
  have H4 := hid h4
  clear h1 h2 h3 h4 hk
  by_cases hck : c = k
  · subst hck
    have G := hid (take_fin H1.out H2.out H3.out H4.out h5 hnk (show Sl w 1 a (n - c) 0 (bv (l.drop c)) by
      have e : l.drop c = [] := by rw [List.drop_eq_nil_iff]; have := H4.out; omega
      rw [e]; exact ⟨by simp [bv]; omega, by omega, by unfold maxLen; omega, fun _ => rfl, fun b hb j u hu => by simp [bv] at hu⟩) H3.out)
    go_enter Try.func34, Try.ntmps34
    go_wp2
    go_ret
    exact G.out
  · have G := hid (take_fin H1.out H2.out H3.out H4.out h5 hnk (show Sl w 1 (a.map fun x => x.add k) (n - k) (c - k) (bv (l.drop k)) by rw [bv_drop]; exact Sl_drop H2.out k hnk) (fun b hb => by
      cases a with
      | none => cases hb
      | some b0 => simp only [Option.map_some, Option.some.injEq] at hb; subst hb; have := H3.out b0 rfl; unfold Addr.add; split <;> exact this))
    go_enter Try.func34, Try.ntmps34
    go_wp2
    go_ret
    exact G.out
end Go.Proofs.Yteleabfbnlhkkaa

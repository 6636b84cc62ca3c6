/- DiskPlays: acts as an argument, Few, Same. -/
import Derived.Test.YtkpblphcbdecmaaDiskQ
import Derived.Test.YtkpblphcbdecmaaArgs
import Derived.Test.YtkpblphcbdecmaaArgS
namespace Go.Proofs.Ytkpblphcbdecmaa
open Go.RowKit Go.Cx Go.F64 Go.ChangeShapes Go.WideShapes Go.ChangeAt
set_option linter.unusedVariables false
set_option linter.unusedSimpArgs false

/-- An act as it lies: its two numbers, its slice, the bytes there. -/
structure Ac where
  k : Int
  n : Int
  a : Option Addr
  m : Nat
  c : Nat
  l : List UInt8
def Ac.ok (w : World) (z : Ac) : Prop := Sl w 1 z.a z.m z.c (bv z.l) ∧ I64 z.k ∧ I64 z.n
theorem ac_cells {H : Type} {enc : TypeId × Value → H} {w : World} {base : Nat} {spare : Nat → Bool} {held : Bool} {m : Nat} {cs : List Value} {y : DataW H × List MemPlace} (hl : cs.length = 3)
    (h : DataW.trod enc Try.prog w base spare held m 47 cs = some y) : ∃ z : Ac, cs = [.int .i64 z.k, .int .i64 z.n, .slice z.a z.m z.c] ∧ z.ok w := by
  match cs, hl with
  | [c0, c1, c2], _ =>
    have k3 : Try.prog.cellsOf 3 = 1 := by kernel_rfl
    have k4 : Try.prog.cellsOf 27 = 1 := by kernel_rfl
    obtain ⟨y0, y1, y2, n, _, _, h0, h1, h2⟩ := Go.Deep.trod_struct3 Try.underlying47 h
    simp only [k3, k4, List.drop_zero, List.drop_succ_cons, List.take_succ_cons, List.take_zero] at h0 h1 h2
    obtain ⟨a, ha, _, wa⟩ := DataW.trod_int Try.underlying3 h0
    obtain ⟨b, hb, _, wb⟩ := DataW.trod_int Try.underlying3 h1
    simp only [List.cons.injEq, and_true] at ha hb
    have hv : ∃ a' n' c', c2 = Value.slice a' n' c' := by
      rcases DataW.trod_slice Try.underlying27 h2 with ⟨hcs, _⟩ | ⟨a', n', c', _, _, _, _, hcs, _⟩
      · simp at hcs; exact ⟨_, _, _, hcs⟩
      · simp at hcs; exact ⟨_, _, _, hcs⟩
    obtain ⟨a', n', c', rfl⟩ := hv
    obtain ⟨lb, hb'⟩ := bytes_row Try.underlying27 Try.underlying5 (by kernel_rfl) (a := a') (n := n') (c := c') h2
    exact ⟨⟨a, b, a', n', c', lb⟩, by rw [ha, hb], hb', i64_wf wa, i64_wf wb⟩

def ActsAt (w : World) (a : Option Addr) (n c : Nat) (L : List Ac) : Prop :=
  L.length = n ∧ n ≤ c ∧ n ≤ 9223372036854775807 ∧ (∀ z ∈ L, z.ok w) ∧
  (0 < n → ∃ b o, a = some ⟨b, o, none⟩ ∧ ∀ j z, L[j]? = some z → w.cell? ⟨b, o + j * 3, none⟩ = some (.int .i64 z.k) ∧ w.cell? ⟨b, o + j * 3 + 1, none⟩ = some (.int .i64 z.n) ∧ w.cell? ⟨b, o + j * 3 + 2, none⟩ = some (.slice z.a z.m z.c))
theorem acts_row {H : Type} {enc : TypeId × Value → H} {w : World} {base : Nat} {spare : Nat → Bool} {held : Bool} {fuel : Nat} {a : Option Addr} {n c : Nat} {x : DataW H × List MemPlace}
    (h : DataW.trod enc Try.prog w base spare held fuel 41 (Value.slice a n c).cells.toList = some x) : ∃ l, ActsAt w a n c l := by
  obtain ⟨l, h1, h2, h3, h4⟩ := Go.ArgS.elems_row (α := Ac) 3 Try.underlying41 (by kernel_rfl) (fun cs z => cs = [.int .i64 z.k, .int .i64 z.n, .slice z.a z.m z.c] ∧ z.ok w) h (fun m cs y hl hy => ac_cells hl hy)
  refine ⟨l, h1, h2, h3, ?_, fun hn => ?_⟩
  · intro z hz
    obtain ⟨j, hj⟩ := List.mem_iff_getElem?.1 hz
    have hn : 0 < n := by have := (List.getElem?_eq_some_iff.1 hj).1; omega
    obtain ⟨ad, e, hc⟩ := h4 hn
    obtain ⟨cs, q1, q2, q3⟩ := hc j z hj
    exact q2.2
  · obtain ⟨ad, e, hc⟩ := h4 hn
    obtain ⟨b, o, sp⟩ := ad
    have hs : sp = none := by
      obtain ⟨z, hz⟩ : ∃ z, l[0]? = some z := ⟨_, List.getElem?_eq_getElem (by omega)⟩
      obtain ⟨cs, q1, q2, q3⟩ := hc 0 z hz
      have := q3 0 _ (by rw [q2.1]; rfl)
      simpa [Addr.add] using World.cell?_spot this
    subst hs
    refine ⟨b, o, e, fun j z hj => ?_⟩
    obtain ⟨cs, q1, ⟨q2, _⟩, q3⟩ := hc j z hj
    subst q2
    have e0 := q3 0 _ rfl
    have e1 := q3 1 _ rfl
    have e2 := q3 2 _ rfl
    rw [add_eq] at e0 e1 e2
    exact ⟨e0, by rw [Nat.add_assoc]; exact e1, by rw [Nat.add_assoc]; exact e2⟩

/-! ### Few -/
def FewOk (L : List Ac) : Prop := (∀ z ∈ L, z.m ≤ 60) ∧ L.length ≤ 60
set_option maxRecDepth 100000 in
set_option maxHeartbeats 1000000 in
theorem few_any (a : Option Addr) (n c : Nat) (L : List Ac) (w : World) (h : ActsAt w a n c L) :
    Calls Try.prog 20 #[.slice a n c] w fun e w' => (e = .returned (.bool false) ∨ e = .returned (.bool true) ∧ FewOk L) ∧ w' = w := by
  obtain ⟨hl, h2, h3, h4, h5⟩ := h
  have HL := hid hl
  have H5 := hid h5
  clear h4 h5 hl
  go_enter Try.func20, Try.ntmps20
  go_wp2
  go_loopw [3] (fun vi wr => ∃ i : Nat, i ≤ n ∧ vi = .int .i64 i ∧ wr = w ∧ Hid (∀ j z, j < i → L[j]? = some z → z.m ≤ 60)) (fun vi _ => n - (intOf vi).toNat)
  case atStart => exact ⟨0, by omega, rfl, by trivial, hid (fun j z h => absurd h (Nat.not_lt_zero _))⟩
  case round =>
    obtain ⟨i, hi, rfl, rfl, hj⟩ := hrel
    by_cases hlt : i < n
    · obtain ⟨z, hz⟩ : ∃ z, L[i]? = some z := ⟨_, List.getElem?_eq_getElem (by rw [HL.out]; exact hlt)⟩
      obtain ⟨b, o, rfl, hc⟩ := H5.out (by omega)
      obtain ⟨c0, c1, c2⟩ := hc i z hz
      have HZ := hid hz
      clear hc hz
      have hlti : (i : Int) < (n : Int) := by omega
      have i0 : (0 : Int) ≤ i := by omega
      by_cases hb : 60 < z.m
      · have hbi : (60 : Int) < z.m := by omega
        clear hb
        go_wp2
        go_ret
        exact ⟨.inl rfl, rfl⟩
      · have hbi : ¬ (60 : Int) < z.m := by omega
        have hb' : z.m ≤ 60 := by omega
        have HB := hid hb'
        clear hb hb'
        go_wp2
        go_roundw
        case rel => exact ⟨i + 1, by omega, by go_num, by trivial, hid (fun j z' h1 h2 => by
          rcases Nat.lt_or_ge j i with h | h
          · exact hj.out j z' h h2
          · obtain rfl : j = i := by omega
            rw [HZ.out] at h2; cases h2; exact HB.out)⟩
        case measure => simp [intOf]; omega
    · obtain rfl : i = n := by omega
      have hbq : decide ((i : Int) < (i : Int)) = false := decide_eq_false (by omega)
      go_wp2
      go_ret
      by_cases h60 : i ≤ 60
      · refine ⟨.inr ⟨by simp; omega, fun z hz => ?_, by rw [HL.out]; exact h60⟩, rfl⟩
        obtain ⟨j, hj'⟩ := List.mem_iff_getElem?.1 hz
        exact hj.out j z (by have := (List.getElem?_eq_some_iff.1 hj').1; have := HL.out; omega) hj'
      · exact ⟨.inl (by simp; omega), rfl⟩

/-! ### Same -/
set_option maxRecDepth 100000 in
set_option maxHeartbeats 1000000 in
theorem same_any (p q s x : Nat) (d : Dk) (w : World) (hd : DiskAt w p q d) (hr : RefAt w s x d) :
    Calls Try.prog 23 #[.pointer (some ⟨p, 0, none⟩), .pointer (some ⟨x, 0, none⟩)] w (True_ w) := by
  have HD := hid hd
  have HR := hid hr
  clear hd hr
  go_enter Try.func23, Try.ntmps23
  cases hdd : d.dead with
  | true =>
    have ND := hid hdd
    clear hdd
    go_wp2_with (first
      | (go_at_call 13; refine (read_any p q d _ HD.out).mono ?_; rintro e w1 (⟨_, rfl, hc1⟩ | ⟨ht, _⟩); rotate_left; (exact absurd (ND.out.symm.trans ht) (by simp)); have C1 := hid hc1; have R1 := hid (HR.out.ch hc1 id (fun _ _ => id)); clear hc1)
      | (go_at_call 33; refine (rread_any s x d _ R1.out).mono ?_; rintro e w2 (⟨_, rfl, hc2⟩ | ⟨ht, _⟩); rotate_left; (exact absurd (ND.out.symm.trans ht) (by simp)); have C2 := hid (C1.out.f hc2); have f0 := string_ofN (l := []) (Sl.nil w2 1); obtain ⟨_, _, _, x1, _, _, x4, _⟩ := (R1.out.ch hc2 id (fun _ _ => id)).raw.open_; have D2 := hid (HD.out.ch C2.out id id); clear hc2))
    go_quiet ((first
      | (go_at_call 15; exact Calls.quiet_of_same ((synced_any p q d _ (D2.out.drewN _)).mono fun e w' h => ⟨h.1, h.2.symm⟩))
      | (go_at_call 18; exact Calls.quiet_of_same ((dead_any p q d _ (D2.out.drewN _)).mono fun e w' h => ⟨h.1, h.2.symm⟩))))
    go_wp2
    go_ret
    exact ⟨by simp, C2.out.drewN _⟩
  | false =>
    have ND := hid hdd
    clear hdd
    go_wp2_with (first
      | (go_at_call 13; refine (read_any p q d _ HD.out).mono ?_; rintro e w1 (⟨ht, _⟩ | ⟨_, a1, c1, rfl, ho1, hc1⟩); (exact absurd (ND.out.symm.trans ht) (by simp)); have C1 := hid hc1; have O1 := hid ho1; have R1 := hid (HR.out.ch hc1 id (fun _ _ => id)); clear hc1 ho1)
      | (go_at_call 33; refine (rread_any s x d _ R1.out).mono ?_; rintro e w2 (⟨ht, _⟩ | ⟨_, a2, c2, rfl, ho2, hc2⟩); (exact absurd (ND.out.symm.trans ht) (by simp)); have C2 := hid (C1.out.f hc2); have f1 := string_ofN (O1.out.f hc2).sl; have f2 := string_ofN ho2.sl; obtain ⟨_, _, _, x1, _, _, x4, _⟩ := (R1.out.ch hc2 id (fun _ _ => id)).raw.open_; have D2 := hid (HD.out.ch C2.out id id); clear hc2 ho2))
    go_quiet ((first
      | (go_at_call 15; exact Calls.quiet_of_same ((synced_any p q d _ (D2.out.drewN _)).mono fun e w' h => ⟨h.1, h.2.symm⟩))
      | (go_at_call 18; exact Calls.quiet_of_same ((dead_any p q d _ (D2.out.drewN _)).mono fun e w' h => ⟨h.1, h.2.symm⟩))))
    go_wp2
    go_ret
    exact ⟨by simp, C2.out.drewN _⟩
end Go.Proofs.Ytkpblphcbdecmaa

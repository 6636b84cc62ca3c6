/- CodeBack. -/
import Derived.Test.YteleabfbnlhkkaaReadE
import Derived.Test.YteleabfbnlhkkaaArgs
import Derived.Deep.RegionWith
import Derived.Outline
import Derived.Deep.Cut
import Derived.WalkMore
namespace Go.Cx
open Go.RowKit Go.ChangeShapes Go.WideShapes Go.ChangeAt
def sv (l : List ByteArray) : List Value := l.map Value.string
theorem sv_get (l : List ByteArray) (j : Nat) : (sv l)[j]? = (l[j]?).map Value.string := by simp [sv]
theorem strs_row {H : Type} {enc : TypeId × Value → H} {P : Program} {w : World} {base : Nat} {spare : Nat → Bool} {held : Bool} {t e : TypeId} {fuel : Nat} {a : Option Addr} {n c : Nat} {x : DataW H × List MemPlace} (ht : P.underlying t = some (.slice e)) (he : P.underlying e = some .string) (hc : P.cellsOf e = 1)
    (h : DataW.trod enc P w base spare held fuel t (Value.slice a n c).cells.toList = some x) : ∃ l : List ByteArray, Sl w 1 a n c (sv l) := by
  obtain ⟨vs, l, h1, h2, h3⟩ := cells_row ht hc (fun v b => v = Value.string b) h (fun m v y hy => by
    obtain ⟨b, hb, _⟩ := DataW.trod_string he hy
    exact ⟨b, by simpa using hb⟩)
  have := map_of_rel (f := Value.string) (by rw [h1]; have := h2.1; omega) h3
  exact ⟨l, by unfold sv; rw [← this]; exact h2⟩
end Go.Cx
namespace Go.Proofs.Yteleabfbnlhkkaa
open Go.RowKit Go.Cx
set_option linter.unusedVariables false
set_option linter.unusedSimpArgs false

/-- What lies ahead: all of it, one byte more, one less. -/
def tl (m : Nat) (rem l : List UInt8) : Prop := (m = 0 ∧ l = rem) ∨ (m = 1 ∧ l = rem ++ [7]) ∨ (m = 2 ∧ rem ≠ [] ∧ l = rem.dropLast)
def Good (m : Nat) (w : World) (p : Nat) (rem : List UInt8) : Prop := ∃ l, Rd w p l 0 ∧ tl m rem l
def Bad (m : Nat) (w : World) (p : Nat) : Prop := m = 2 ∧ ∃ l, Rd w p l 8
theorem cls {m : Nat} {w : World} {p : Nat} {e rem : List UInt8} (h : Good m w p (e ++ rem)) : (∃ l, Rd w p (e ++ l) 0 ∧ tl m rem l) ∨ (m = 2 ∧ rem = [] ∧ Rd w p e.dropLast 0) := by
  obtain ⟨l, hr, ⟨rfl, rfl⟩ | ⟨rfl, rfl⟩ | ⟨rfl, hne, rfl⟩⟩ := h
  · exact .inl ⟨rem, hr, .inl ⟨rfl, rfl⟩⟩
  · exact .inl ⟨rem ++ [7], by rwa [← List.append_assoc], .inr (.inl ⟨rfl, rfl⟩)⟩
  · by_cases h0 : rem = []
    · subst h0; exact .inr ⟨rfl, rfl, by rwa [List.append_nil] at hr⟩
    · exact .inl ⟨rem.dropLast, by rwa [List.dropLast_append_of_ne_nil h0] at hr, .inr (.inr ⟨rfl, h0, rfl⟩)⟩
theorem txt200 {s : List UInt8} (h : s.length ≤ 200) : txt s = u8of s.length :: u8of ((s.length : Int) / 256) :: s := by
  unfold txt
  rw [show min s.length 65535 = s.length by omega, List.take_of_length_le (by omega)]; rfl
theorem txt200_num {s : List UInt8} (h : s.length ≤ 200) : s.length = leNum [u8of s.length, u8of ((s.length : Int) / 256)] := by
  have h1 := u8of_val (s.length : Int)
  have h2 := u8of_val ((s.length : Int) / 256)
  simp only [leNum]
  omega
/-- One more is read, and it is as it was. -/
theorem int_good (p : Nat) (x : Int) (l : List UInt8) (w : World) (hx : I64 x) (h : Rd w p (le8 x ++ l) 0) : Calls Try.prog 20 #[.pointer (some ⟨p, 0, none⟩)] w (NumOk w p l x) := by
  have := rint_ok p (le8 x ++ l) w h (by simp [le8_length])
  rwa [List.drop_left' (le8_length x), List.take_left' (le8_length x), le8_back x hx] at this
theorem text_good (p : Nat) (s l : List UInt8) (w : World) (hs : s.length ≤ 200) (h : Rd w p (txt s ++ l) 0) : Calls Try.prog 23 #[.pointer (some ⟨p, 0, none⟩)] w (TextOk w p l 0 s) := by
  rw [txt200 hs] at h
  have := rtext_ok p _ w h s.length (by simp) (txt200_num hs) (by simp)
  simpa using this
theorem int_short (p : Nat) (x : Int) (w : World) (h : Rd w p (le8 x).dropLast 0) : Calls Try.prog 20 #[.pointer (some ⟨p, 0, none⟩)] w fun en w' => en = .returned (.int .i64 0) ∧ (∃ l, Rd w' p l 8) ∧ Ch (fun k => k = p) w w' :=
  (rint_bad p _ 0 w h (.inr (by rw [List.length_dropLast, le8_length]; omega))).mono fun _ _ ⟨h1, h2, h3⟩ => ⟨h1, ⟨_, h2⟩, h3⟩
theorem int_off (p : Nat) (l : List UInt8) (w : World) (h : Rd w p l 8) : Calls Try.prog 20 #[.pointer (some ⟨p, 0, none⟩)] w fun en w' => en = .returned (.int .i64 0) ∧ (∃ l, Rd w' p l 8) ∧ Ch (fun k => k = p) w w' :=
  (rint_bad p _ 8 w h (.inl (by decide))).mono fun _ _ ⟨h1, h2, h3⟩ => ⟨h1, ⟨_, h2⟩, h3⟩
theorem text_off (p : Nat) (l : List UInt8) (w : World) (h : Rd w p l 8) : Calls Try.prog 23 #[.pointer (some ⟨p, 0, none⟩)] w fun en w' => en = .returned (.string (str [])) ∧ (∃ l, Rd w' p l 8) ∧ Ch (fun k => k = p) w w' :=
  (rtext_bad p _ 8 w h (.inl (by decide))).mono fun _ _ ⟨h1, h2, h3⟩ => ⟨h1, ⟨_, h2⟩, h3⟩
theorem text_short (p : Nat) (s : List UInt8) (w : World) (hs : s.length ≤ 200) (h : Rd w p (txt s).dropLast 0) : Calls Try.prog 23 #[.pointer (some ⟨p, 0, none⟩)] w fun en w' => en = .returned (.string (str [])) ∧ (∃ l, Rd w' p l 8) ∧ Ch (fun k => k = p) w w' := by
  rw [txt200 hs] at h
  cases s with
  | nil => exact (rtext_bad p _ 0 w h (.inr (by simp))).mono fun _ _ ⟨h1, h2, h3⟩ => ⟨h1, ⟨_, h2⟩, h3⟩
  | cons a s =>
    have e : (u8of ((a :: s).length : Int) :: u8of (((a :: s).length : Int) / 256) :: a :: s).dropLast = u8of ((a :: s).length : Int) :: u8of (((a :: s).length : Int) / 256) :: (a :: s).dropLast := rfl
    rw [e] at h
    exact (rtext_cut p _ w h (a :: s).length (by simp) (txt200_num hs) (by simp)).mono fun _ _ ⟨h1, h2, h3⟩ => ⟨h1, ⟨_, h2⟩, h3⟩
/-- A number's way on: read as it was, or cut off. -/
theorem int_way {m : Nat} {w : World} {p : Nat} {x : Int} {rem : List UInt8} (hx : I64 x) (h : Good m w p (le8 x ++ rem) ∨ Bad m w p) :
    ((∀ w1, Ch (fun _ => False) w w1 → Calls Try.prog 20 #[.pointer (some ⟨p, 0, none⟩)] w1 fun en w' => en = .returned (.int .i64 x) ∧ Good m w' p rem ∧ Ch (fun k => k = p) w1 w')) ∨
    (m = 2 ∧ ∀ w1, Ch (fun _ => False) w w1 → Calls Try.prog 20 #[.pointer (some ⟨p, 0, none⟩)] w1 fun en w' => en = .returned (.int .i64 0) ∧ Bad m w' p ∧ Ch (fun k => k = p) w1 w') := by
  rcases h with h | ⟨rfl, l, h⟩
  · rcases cls h with ⟨l, hr, ht⟩ | ⟨rfl, rfl, hr⟩
    · exact .inl fun w1 hc => (int_good p x l w1 hx (hr.f hc)).mono fun _ _ ⟨h1, h2, h3⟩ => ⟨h1, ⟨l, h2, ht⟩, h3⟩
    · exact .inr ⟨rfl, fun w1 hc => (int_short p x w1 (hr.f hc)).mono fun _ _ ⟨h1, h2, h3⟩ => ⟨h1, ⟨rfl, h2⟩, h3⟩⟩
  · exact .inr ⟨rfl, fun w1 hc => (int_off p l w1 (h.f hc)).mono fun _ _ ⟨h1, h2, h3⟩ => ⟨h1, ⟨rfl, h2⟩, h3⟩⟩
theorem text_way {m : Nat} {w : World} {p : Nat} {s rem : List UInt8} (hs : s.length ≤ 200) (h : Good m w p (txt s ++ rem) ∨ Bad m w p) :
    ((∀ w1, Ch (fun _ => False) w w1 → Calls Try.prog 23 #[.pointer (some ⟨p, 0, none⟩)] w1 fun en w' => en = .returned (.string (str s)) ∧ Good m w' p rem ∧ Ch (fun k => k = p) w1 w')) ∨
    (m = 2 ∧ ∀ w1, Ch (fun _ => False) w w1 → Calls Try.prog 23 #[.pointer (some ⟨p, 0, none⟩)] w1 fun en w' => en = .returned (.string (str [])) ∧ Bad m w' p ∧ Ch (fun k => k = p) w1 w') := by
  rcases h with h | ⟨rfl, l, h⟩
  · rcases cls h with ⟨l, hr, ht⟩ | ⟨rfl, rfl, hr⟩
    · exact .inl fun w1 hc => (text_good p s l w1 hs (hr.f hc)).mono fun _ _ ⟨h1, h2, h3⟩ => ⟨h1, ⟨l, h2, ht⟩, h3⟩
    · exact .inr ⟨rfl, fun w1 hc => (text_short p s w1 hs (hr.f hc)).mono fun _ _ ⟨h1, h2, h3⟩ => ⟨h1, ⟨rfl, h2⟩, h3⟩⟩
  · exact .inr ⟨rfl, fun w1 hc => (text_off p l w1 (h.f hc)).mono fun _ _ ⟨h1, h2, h3⟩ => ⟨h1, ⟨rfl, h2⟩, h3⟩⟩
theorem byte_way {m : Nat} {w : World} {p : Nat} {n : Nat} {rem : List UInt8} (hn : n ≤ 20) (h : Good m w p (u8of n :: rem)) :
    (Calls Try.prog 21 #[.pointer (some ⟨p, 0, none⟩)] w fun en w' => en = .returned (.int .i64 n) ∧ (Good m w' p rem ∨ Bad m w' p) ∧ Ch (fun k => k = p) w w') ∨
    (m = 2 ∧ Calls Try.prog 21 #[.pointer (some ⟨p, 0, none⟩)] w fun en w' => en = .returned (.int .i64 0) ∧ (Good m w' p rem ∨ Bad m w' p) ∧ Ch (fun k => k = p) w w') := by
  have h1 : Good m w p ([u8of n] ++ rem) := h
  have hv : (((u8of n).toNat : Nat) : Int) = n := by have := u8of_val (n : Int); omega
  rcases cls h1 with ⟨l, hr, ht⟩ | ⟨rfl, rfl, hr⟩
  · refine .inl ((rbyte_ok p (u8of n) l w hr).mono fun _ _ ⟨h1, h2, h3⟩ => ⟨by rw [h1, hv], .inl ⟨l, h2, ht⟩, h3⟩)
  · exact .inr ⟨rfl, (rbyte_bad p _ 0 w hr (.inr (by simp))).mono fun _ _ ⟨h1, h2, h3⟩ => ⟨h1, .inr ⟨rfl, _, h2⟩, h3⟩⟩
/-- At the end. -/
theorem end_way {m : Nat} {w : World} {p : Nat} (h : Good m w p [] ∨ Bad m w p) : ∃ l e, Rd w p l e ∧ endOf l e = (if m = 0 then 0 else if m = 1 then 9 else 8) := by
  rcases h with ⟨l, hr, ⟨rfl, rfl⟩ | ⟨rfl, rfl⟩ | ⟨rfl, hne, rfl⟩⟩ | ⟨rfl, l, hr⟩
  · exact ⟨[], 0, hr, by simp [endOf]⟩
  · exact ⟨_, 0, hr, by simp [endOf]⟩
  · exact absurd rfl hne
  · exact ⟨l, 8, hr, by simp [endOf]⟩
theorem ints_snoc {L : List Int} {i : Nat} {z : Int} (h : L[i]? = some z) : (L.take (i + 1)).flatMap le8 = (L.take i).flatMap le8 ++ le8 z := by
  rw [List.take_add_one, h, List.flatMap_append]; simp
theorem ints_cons {L : List Int} {i : Nat} {z : Int} (h : L[i]? = some z) : (L.drop i).flatMap le8 = le8 z ++ (L.drop (i + 1)).flatMap le8 := by
  have : L.drop i = z :: L.drop (i + 1) := by
    rw [List.drop_eq_getElem_cons (List.getElem?_eq_some_iff.1 h).1]
    rw [(List.getElem?_eq_some_iff.1 h).2]
  rw [this, List.flatMap_cons]
def bt8 (s : ByteArray) : List UInt8 := txt s.data.toList
theorem strs_snoc {L : List ByteArray} {i : Nat} {z : ByteArray} (h : L[i]? = some z) : (L.take (i + 1)).flatMap bt8 = (L.take i).flatMap bt8 ++ bt8 z := by
  rw [List.take_add_one, h, List.flatMap_append]; simp
theorem strs_cons {L : List ByteArray} {i : Nat} {z : ByteArray} (h : L[i]? = some z) : (L.drop i).flatMap bt8 = bt8 z ++ (L.drop (i + 1)).flatMap bt8 := by
  have : L.drop i = z :: L.drop (i + 1) := by
    rw [List.drop_eq_getElem_cons (List.getElem?_eq_some_iff.1 h).1]
    rw [(List.getElem?_eq_some_iff.1 h).2]
  rw [this, List.flatMap_cons]
theorem strs_len (L : List ByteArray) (j : Nat) (h : ∀ i s, i < j → L[i]? = some s → s.size ≤ 200) : ((L.take j).flatMap bt8).length ≤ 202 * j := by
  induction j with
  | zero => simp
  | succ j ih =>
    have ih := ih (fun i s hi => h i s (by omega))
    rw [List.take_add_one, List.flatMap_append, List.length_append]
    cases hj : L[j]? with
    | none => simp only [Option.toList_none, List.flatMap_nil, List.length_nil, Nat.add_zero]; omega
    | some s =>
      have hs := h j s (by omega) hj
      have : (bt8 s).length ≤ 202 := by unfold bt8; rw [txt_length]; have : s.size = s.data.toList.length := by simp
                                        omega
      simp only [Option.toList_some, List.flatMap_cons, List.flatMap_nil, List.append_nil]; omega
set_option maxRecDepth 100000 in
set_option maxHeartbeats 4000000 in
theorem CodeBack_walk (w : World) (a0 : Option Addr) (n0 c0 : Nat) (L : List Int) (h0 : Sl w 1 a0 n0 c0 (iv L)) (q0 : ∀ z ∈ L, I64 z) (a1 : Option Addr) (n1 c1 : Nat) (S : List ByteArray) (h1 : Sl w 1 a1 n1 c1 (sv S)) :
    Calls Try.prog 10 #[.slice a0 n0 c0, .slice a1 n1 c1] w fun e w' => e = .returned (.bool true) ∧ Below w.heap.size w w' := by
  refine Calls.mono (R := True_ w) ?_ (fun e w' h => ⟨h.1, h.2.below0⟩)
  have hL : L.length = n0 := by have := h0.1; rw [iv_length] at this; omega
  have hS : S.length = n1 := by have := h1.1; simp [sv] at this; omega
  have H0 := hid h0
  have H1 := hid h1
  have LL := hid hL
  have SS := hid hS
  have Q0 := hid q0
  have HN := fun w => hid (Sl.nil w 1)
  clear h0 h1 hL hS q0
  by_cases b0 : 20 < n0
  · have e0 : decide ((20 : Int) < (n0 : Int)) = true := decide_eq_true (by omega)
    go_enter Try.func10, Try.ntmps10
    go_wp2_with (go_at_call 11; refine (known1_any _).mono ?_; rintro e w1 ⟨rfl, hc1⟩; have C1 := hid hc1; clear hc1)
    go_ret
    exact ⟨rfl, C1.out⟩
  · have e0 : decide ((20 : Int) < (n0 : Int)) = false := decide_eq_false (by omega)
    by_cases b1 : 10 < n1
    · have e1 : decide ((10 : Int) < (n1 : Int)) = true := decide_eq_true (by omega)
      go_enter Try.func10, Try.ntmps10
      go_wp2_with (go_at_call 11; refine (known1_any _).mono ?_; rintro e w1 ⟨rfl, hc1⟩; have C1 := hid hc1; clear hc1)
      go_ret
      exact ⟨rfl, C1.out⟩
    · have e1 : decide ((10 : Int) < (n1 : Int)) = false := decide_eq_false (by omega)
      have n20 : n0 ≤ 20 := by omega
      have n10 : n1 ≤ 10 := by omega
      obtain ⟨H, hH⟩ : ∃ H : List UInt8, H = [u8of n0] := ⟨_, rfl⟩
      have HH := hid hH
      clear hH b0 b1
      go_enter Try.func10, Try.ntmps10
      go_wp2_with (first
        | (go_at_call 11; refine (known1_any _).mono ?_; rintro e w1 ⟨rfl, hc1⟩; have C1 := hid hc1; clear hc1)
        | (go_at_call 14; refine (byte_any none 0 0 [] n0 _ (HN _).out (by omega)).mono ?_; rintro e w2 ⟨a2, c2, rfl, hO, hC⟩; rw [List.nil_append, ← HH.out] at hO; have B2 := hid hO.sl; have C2 := hid (C1.out.f hC); clear hO hC C1))
      go_loopw [5, 6] (fun vb vi wr => ∃ (i m : Nat) (b : Option Addr) (cb : Nat), i ≤ n0 ∧ vi = .int .i64 i ∧ vb = .slice b m cb ∧ m = 1 + 8 * i ∧ Sl wr 1 b m cb (bv (H ++ (L.take i).flatMap le8)) ∧ Ch (fun _ => False) w wr) (fun _ vi _ => n0 - (intOf vi).toNat)
      case atStart => exact ⟨0, 1, a2, c2, by omega, rfl, rfl, rfl, by simpa using B2.out, C2.out⟩
      case round =>
        obtain ⟨i, m, b, cb, hi, rfl, rfl, hm, hb, hc⟩ := hrel
        have B := hid hb
        have C := hid hc
        have M := hid hm
        clear hb hc B2 C2
        by_cases hlt : i < n0
        · obtain ⟨z, hz⟩ : ∃ z, L[i]? = some z := ⟨_, List.getElem?_eq_getElem (by rw [LL.out]; exact hlt)⟩
          obtain ⟨b0, o0, rfl⟩ := H0.out.spot (by intro e; have := congrArg List.length e; rw [iv_length, LL.out] at this; simp at this; omega)
          have hcell := (H0.out.below C.out.below0).at_ (j := i) (by rw [iv_get, hz]; rfl)
          have EN := hid (ints_snoc hz)
          have hlti : (i : Int) < (n0 : Int) := by omega
          have i0 : (0 : Int) ≤ i := by omega
          have q1 : m ≤ 1000000 := by omega
          clear hz hm
          go_wp2_with (go_at_call 12; refine (int_any _ m _ _ z _ B.out q1).mono ?_; rintro e w3 ⟨a3, c3, rfl, hO, hC⟩; rw [List.append_assoc, ← EN.out] at hO; have O3 := hid hO.sl; have C3 := hid (C.out.f hC); clear hO hC)
          go_roundw
          case rel => exact ⟨i + 1, m + 8, a3, c3, by omega, by go_num, rfl, by rw [M.out]; omega, O3.out, C3.out⟩
          case measure => simp [intOf]; omega
        · obtain rfl : i = n0 := by omega
          have hall : (L.take i) = L := List.take_of_length_le (by rw [LL.out]; exact Nat.le_refl _)
          rw [hall] at B
          clear hall
          obtain ⟨H2, hH2⟩ : ∃ H2, H2 = H ++ L.flatMap le8 := ⟨_, rfl⟩
          rw [← hH2] at B
          have HH2 := hid hH2
          clear hH2
          have hb9 : decide ((i : Int) < (i : Int)) = false := decide_eq_false (by omega)
          go_wp2
          go_loopw [5, 7] (fun vb vj wr => ∃ (j m2 : Nat) (b2 : Option Addr) (cb2 : Nat), j ≤ n1 ∧ vj = .int .i64 j ∧ vb = .slice b2 m2 cb2 ∧ Hid (∀ i s, i < j → S[i]? = some s → s.size ≤ 200) ∧ Sl wr 1 b2 m2 cb2 (bv (H2 ++ (S.take j).flatMap bt8)) ∧ Ch (fun _ => False) w wr) (fun _ vj _ => n1 - (intOf vj).toNat)
          case atStart => exact ⟨0, m, b, cb, by omega, rfl, rfl, hid (fun i s h => absurd h (by omega)), by simpa using B.out, C.out⟩
          case round =>
            obtain ⟨j, m2, b2, cb2, hj, rfl, rfl, hall2, hb2, hc2⟩ := hrel
            have hm2 : m2 = (H2 ++ (S.take j).flatMap bt8).length := by have := hb2.1; rw [bv_length] at this; omega
            have hm1 : m = H2.length := by have := B.out.1; rw [bv_length] at this; omega
            have hl2 := strs_len S j hall2.out
            rw [List.length_append, ← hm1] at hm2
            have hM := M.out
            have m9 : m2 ≤ 900000 := by omega
            have m1 : 1 ≤ m2 := by omega
            have B2 := hid hb2
            have C2 := hid hc2
            clear hb2 hc2 hm2 hm1 hl2 hM
            by_cases hlt2 : j < n1
            · obtain ⟨s, hs⟩ : ∃ s, S[j]? = some s := ⟨_, List.getElem?_eq_getElem (by rw [SS.out]; exact hlt2)⟩
              obtain ⟨s, rfl⟩ := str_of s
              obtain ⟨b1, o1, rfl⟩ := H1.out.spot (by intro e; have := congrArg List.length e; simp [sv, SS.out] at this; omega)
              have hcell := (H1.out.below C2.out.below0).at_ (j := j) (by rw [sv_get, hs]; rfl)
              have hltj : (j : Int) < (n1 : Int) := by omega
              have j0 : (0 : Int) ≤ j := by omega
              by_cases h200 : 200 < s.length
              · have e2 : decide ((200 : Int) < (s.length : Int)) = true := decide_eq_true (by omega)
                clear hs
                go_wp2
                go_ret
                exact ⟨rfl, C2.out⟩
              · have e2 : decide ((200 : Int) < (s.length : Int)) = false := decide_eq_false (by omega)
                have EN := strs_snoc hs
                have ebt : bt8 (str s) = txt s := by unfold bt8; rw [str_data]
                rw [ebt] at EN
                have EN := hid EN
                have HA := hid (show ∀ i x, i < j + 1 → S[i]? = some x → x.size ≤ 200 by
                  intro i x hi hx
                  rcases Nat.lt_or_ge i j with h | h
                  · exact hall2.out i x h hx
                  · obtain rfl : i = j := by omega
                    rw [hs] at hx
                    cases hx
                    rw [str_size]; omega)
                have q6 : s.length ≤ 1000000 := by omega
                clear hs ebt
                go_wp2_with (go_at_call 16; refine (text_any _ m2 _ _ s _ B2.out m9 q6).mono ?_; rintro e w3 ⟨a3, c3, rfl, hO, hC⟩; rw [List.append_assoc, ← EN.out] at hO; have O3 := hid hO.sl; have C3 := hid (C2.out.f hC); clear hO hC)
                go_roundw
                case rel => exact ⟨j + 1, _, a3, c3, by omega, by go_num, rfl, HA, O3.out, C3.out⟩
                case measure => simp [intOf]; omega
            · obtain rfl : j = n1 := by omega
              have hall3 : (S.take j) = S := List.take_of_length_le (by rw [SS.out]; exact Nat.le_refl _)
              rw [hall3] at B2
              clear hall3
              obtain ⟨T, hT⟩ : ∃ T, T = H2 ++ S.flatMap bt8 := ⟨_, rfl⟩
              rw [← hT] at B2
              have HT := hid hT
              have hb8 : decide ((j : Int) < (j : Int)) = false := decide_eq_false (by omega)
              have HT2 := hid (show T = u8of i :: (L.flatMap le8 ++ S.flatMap bt8) by rw [hT, HH2.out, HH.out]; simp)
              have HALL := hall2
              have C20 := C2
              clear hT B C2 hall2
              obtain ⟨W0, hW0⟩ : ∃ W0, W0 = wr := ⟨_, rfl⟩
              rw [← hW0] at B2 C20 ⊢
              clear hW0
              go_wp2
              go_loopw [8] (fun vk w3 => ∃ k : Nat, k ≤ 3 ∧ vk = .int .i64 k ∧ Ch (fun _ => False) W0 w3) (fun vk _ => 3 - (intOf vk).toNat)
              case atStart => exact ⟨0, by omega, rfl, Ch.refl _ _⟩
              case round =>
                obtain ⟨k, hk, rfl, hc3⟩ := hrel
                have C3 := hid hc3
                have X3 := hid (B2.out.below hc3.below0)
                clear hc3
                have hk4 : k = 0 ∨ k = 1 ∨ k = 2 ∨ k = 3 := by omega
                have hd0 : ∀ W : World, Own (W.alloc (.cells #[] 5)) W.heap.size 5 1 (some ⟨W.heap.size, 0, none⟩) 0 0 [] := fun W => World.ownsRow_made W #[] 0 (Nat.le_refl _) (Nat.zero_le _) rfl
                have M0 := hid hd0
                have q1 : 0 + m2 ≤ maxLen := by unfold maxLen; omega
                have q2 : (0 + m2) * 1 ≤ 140737488355328 := by omega
                have p1 : m2 + 1 ≤ maxLen := by unfold maxLen; omega
                have p2 : (m2 + 1) * 1 ≤ 140737488355328 := by omega
                have sz := X3.out.2.1
                have hTl : T.length = m2 := by have := X3.out.1; rw [bv_length] at this; omega
                have hcut : IntKind.i64.wrap ((m2 : Int) - 1) = ((m2 - 1 : Nat) : Int) := by rw [IntKind.wrap_i64]; omega
                have hcut0 : (0 : Int) ≤ ((m2 - 1 : Nat) : Int) := by omega
                have hcut1 : ((m2 - 1 : Nat) : Int) ≤ (cb2 : Int) := by omega
                clear hd0 sz
                rcases hk4 with rfl | rfl | rfl | rfl
                · go_upto_region 24 with (fail)
                  have XX : Hid (Sl wr 1 b2 m2 cb2 (bv (T))) := hid (X3.out)
                  have TT : tl 0 T (T) := .inl ⟨rfl, rfl⟩
                  have CX : Hid (Ch (fun _ => False) W0 wr) := C3
                  go_upto_region 25 with (go_at_call 19; refine (new1_any b2 m2 cb2 (T) _ XX.out (by omega)).mono ?_; rintro e wn ⟨p, rfl, hr, hp, hc⟩; have PP := hid (Nat.le_trans CX.out.size hp); have CN := hid (CX.out.f hc); have GD := hid (⟨_, hr, TT⟩ : Good 0 wn p T); clear hr hp hc)
                  have gd := GD.out
                  rw [HT2.out] at gd
                  obtain ⟨v, hv, HBY⟩ : ∃ v : Int, (0 ≠ 2 → v = i) ∧ Calls Try.prog 21 #[.pointer (some ⟨p, 0, none⟩)] wn fun en w' => en = .returned (.int .i64 v) ∧ (Good 0 w' p (L.flatMap le8 ++ S.flatMap bt8) ∨ Bad 0 w' p) ∧ Ch (fun k => k = p) wn w' := by
                    rcases byte_way n20 gd with h | ⟨h2, h⟩
                    · exact ⟨i, fun _ => rfl, h⟩
                    · exact ⟨0, fun h' => absurd h2 h', h⟩
                  have BY := hid HBY
                  have OK : Hid (0 ≠ 2 → (v == (i : Int)) = true) := hid (fun h => by rw [hv h]; simp)
                  clear gd HBY GD TT XX
                  go_wp2_with (go_at_call 21; refine BY.out.mono ?_; rintro e wb ⟨rfl, hst, hc⟩; have ST := hid hst; have CB := hid (CN.out.far1 hc PP.out); clear hst hc)
                  clear hv BY CN CX
                  go_loopw [11, 12] (fun vo vi wr => ∃ (q : Nat) (okb : Bool), q ≤ i ∧ vi = .int .i64 q ∧ vo = .bool okb ∧ Hid (0 ≠ 2 → okb = true) ∧ Hid (Good 0 wr p ((L.drop q).flatMap le8 ++ S.flatMap bt8) ∨ Bad 0 wr p) ∧ Ch (fun _ => False) W0 wr) (fun _ vi _ => i - (intOf vi).toNat)
                  case atStart => exact ⟨0, _, by omega, rfl, rfl, by first | exact OK | exact hid (fun _ => rfl), ST, CB.out⟩
                  case round =>
                    obtain ⟨q, okb, hq, rfl, rfl, hok, hst, hc4⟩ := hrel
                    have C4 := hid hc4
                    clear hc4
                    by_cases hltq : q < i
                    · obtain ⟨z, hz⟩ : ∃ z, L[q]? = some z := ⟨_, List.getElem?_eq_getElem (by rw [LL.out]; exact hltq)⟩
                      obtain ⟨bb, oo, hbb⟩ := H0.out.spot (by intro e; have := congrArg List.length e; rw [iv_length, LL.out] at this; simp at this; omega)
                      subst hbb
                      have hcell := H0.out.at_ (j := q) (by rw [iv_get, hz]; rfl)
                      have CELL := hid hcell
                      have c4 := (C20.out.f C4.out).cell hcell id
                      have c4' : wr.drew.cell? ⟨bb, oo + q, none⟩ = some (.int .i64 z) := c4
                      have hltqi : (q : Int) < (i : Int) := by omega
                      have q0 : (0 : Int) ≤ q := by omega
                      have hst2 := hst.out
                      rw [ints_cons hz, List.append_assoc] at hst2
                      have WAY := int_way (Q0.out z (List.mem_of_getElem? hz)) hst2
                      clear hst hst2 hz hcell
                      go_wp2
                      rcases WAY with way | ⟨hm, way⟩
                      · have WY := hid way
                        clear way
                        go_region_with (go_at_call 20; refine (WY.out _ ?s1).mono ?_; (case s1 => exact (Ch.refl (fun _ => False) _).drew); rintro e wz ⟨rfl, hg, hc⟩; have HG := hid hg; have CZ := hid (C4.out.drew.far1 hc PP.out); have cz := (C20.out.f CZ.out).cell CELL.out id; clear hg hc)
                        all_goals (
                          go_wp2
                          go_roundw
                          case rel => exact ⟨q + 1, okb, by omega, by go_num, rfl, hok, hid (.inl HG.out), CZ.out⟩
                          case measure => simp [intOf]; omega)
                      · have WY := hid way
                        clear way
                        exact absurd hm (by decide)
                    · obtain rfl : q = i := by omega
                      have hbq : decide ((q : Int) < (q : Int)) = false := decide_eq_false (by omega)
                      have hdr : L.drop q = [] := List.drop_of_length_le (by rw [LL.out]; exact Nat.le_refl _)
                      rw [hdr] at hst
                      clear hdr
                      simp only [List.flatMap_nil, List.nil_append] at hst
                      have OK := hok
                      have ST := hst
                      have CB := C4
                      clear hok hst C4
                      go_wp2
                      go_loopw [11, 13] (fun vo vi wr => ∃ (q : Nat) (okb : Bool), q ≤ j ∧ vi = .int .i64 q ∧ vo = .bool okb ∧ Hid (0 ≠ 2 → okb = true) ∧ Hid (Good 0 wr p ((S.drop q).flatMap bt8) ∨ Bad 0 wr p) ∧ Ch (fun _ => False) W0 wr) (fun _ vi _ => j - (intOf vi).toNat)
                      case atStart => exact ⟨0, _, by omega, rfl, rfl, by first | exact OK | exact hid (fun _ => rfl), ST, CB.out⟩
                      case round =>
                        obtain ⟨q, okb, hq, rfl, rfl, hok, hst, hc4⟩ := hrel
                        have C4 := hid hc4
                        clear hc4
                        by_cases hltq : q < j
                        · obtain ⟨z, hz⟩ : ∃ z, S[q]? = some z := ⟨_, List.getElem?_eq_getElem (by rw [SS.out]; exact hltq)⟩
                          obtain ⟨z, rfl⟩ := str_of z
                          have ebt : bt8 (str z) = txt z := by unfold bt8; rw [str_data]
                          obtain ⟨bb, oo, hbb⟩ := H1.out.spot (by intro e; have := congrArg List.length e; simp [sv, SS.out] at this; omega)
                          subst hbb
                          have hcell := H1.out.at_ (j := q) (by rw [sv_get, hz]; rfl)
                          have CELL := hid hcell
                          have c4 := (C20.out.f C4.out).cell hcell id
                          have c4' : wr.drew.cell? ⟨bb, oo + q, none⟩ = some (.string (str z)) := c4
                          have hltqi : (q : Int) < (j : Int) := by omega
                          have q0 : (0 : Int) ≤ q := by omega
                          have hst2 := hst.out
                          rw [strs_cons hz, ebt] at hst2
                          have WAY := text_way (by have := HALL.out q (str z) hltq hz; rw [str_size] at this; exact this) hst2
                          clear ebt
                          clear hst hst2 hz hcell
                          go_wp2
                          rcases WAY with way | ⟨hm, way⟩
                          · have WY := hid way
                            clear way
                            go_region_with (go_at_call 23; refine (WY.out _ ?s1).mono ?_; (case s1 => exact (Ch.refl (fun _ => False) _).drew); rintro e wz ⟨rfl, hg, hc⟩; have HG := hid hg; have CZ := hid (C4.out.drew.far1 hc PP.out); have cz := (C20.out.f CZ.out).cell CELL.out id; clear hg hc)
                            all_goals (
                              go_wp2
                              go_roundw
                              case rel => exact ⟨q + 1, okb, by omega, by go_num, rfl, hok, hid (.inl HG.out), CZ.out⟩
                              case measure => simp [intOf]; omega)
                          · have WY := hid way
                            clear way
                            exact absurd hm (by decide)
                        · obtain rfl : q = j := by omega
                          have hbq : decide ((q : Int) < (q : Int)) = false := decide_eq_false (by omega)
                          have hdr : S.drop q = [] := List.drop_of_length_le (by rw [SS.out]; exact Nat.le_refl _)
                          rw [hdr] at hst
                          clear hdr
                          simp only [List.flatMap_nil] at hst
                          obtain ⟨lz, ez, hrz, hez⟩ := end_way hst.out
                          have RZ := hid hrz
                          have EZ := hid hez
                          clear hst hrz hez
                          have okt := hok.out (by decide)
                          subst okt
                          go_wp2_with (go_at_call 22; refine (end_any p lz ez _ RZ.out).mono ?_; rw [EZ.out]; simp only [if_true]; rintro e wy ⟨rfl, rfl⟩)
                          go_roundw
                          case rel => exact ⟨1, by omega, rfl, C4.out⟩
                          case measure => simp [intOf]
                · go_upto_region 24 with (first
                    | (at_builtin; refine wpList_app rfl _ _ _ _ rfl wr.heap.size 5 1 1 _ et_u8 _ 0 _ [] rfl (M0.out wr) _ m2 _ rfl ((X3.out.ch ((Ch.refl (fun _ => False) wr).alloc _) (fun _ _ => id)).src Try.underlying22 (bv_one _)) q1 q2 (by simp) ?_; intro a6 c6 w6 hO hS hC hN; rw [List.nil_append, Nat.zero_add] at hO; have O6 := hid hO; have hC2 := Ch.app_new hC; have C6 := hid (C3.out.f hC2); have G6 := hid hC2.size; clear hO hS hC hN hC2)
                    | (at_builtin; refine wpList_app rfl _ _ _ _ rfl wr.heap.size 5 1 1 _ et_u8 _ m2 _ _ rfl (O6.out.f ((Ch.refl (fun _ => False) w6).alloc _)) _ 1 _ rfl ((lit1 w6 7 7 rfl).src Try.underlying22 (bv_one _)) p1 p2 (by have := G6.out; simp; omega) ?_; intro a8 c8 w8 hO hS hC hN; rw [← bv_append] at hO; have O8 := hid hO; have C8 := hid ((C6.out.alloc _).app_own (O6.out.f ((Ch.refl (fun _ => False) w6).alloc _)) C3.out.size hC); clear hO hS hC hN))
                  have XX : Hid (Sl w8 1 a8 (m2 + 1) c8 (bv (T ++ [7]))) := hid (O8.out.sl)
                  have TT : tl 1 T (T ++ [7]) := .inr (.inl ⟨rfl, rfl⟩)
                  have CX : Hid (Ch (fun _ => False) W0 w8) := C8
                  go_upto_region 25 with (go_at_call 19; refine (new1_any a8 (m2 + 1) c8 (T ++ [7]) _ XX.out (by omega)).mono ?_; rintro e wn ⟨p, rfl, hr, hp, hc⟩; have PP := hid (Nat.le_trans CX.out.size hp); have CN := hid (CX.out.f hc); have GD := hid (⟨_, hr, TT⟩ : Good 1 wn p T); clear hr hp hc)
                  have gd := GD.out
                  rw [HT2.out] at gd
                  obtain ⟨v, hv, HBY⟩ : ∃ v : Int, (1 ≠ 2 → v = i) ∧ Calls Try.prog 21 #[.pointer (some ⟨p, 0, none⟩)] wn fun en w' => en = .returned (.int .i64 v) ∧ (Good 1 w' p (L.flatMap le8 ++ S.flatMap bt8) ∨ Bad 1 w' p) ∧ Ch (fun k => k = p) wn w' := by
                    rcases byte_way n20 gd with h | ⟨h2, h⟩
                    · exact ⟨i, fun _ => rfl, h⟩
                    · exact ⟨0, fun h' => absurd h2 h', h⟩
                  have BY := hid HBY
                  have OK : Hid (1 ≠ 2 → (v == (i : Int)) = true) := hid (fun h => by rw [hv h]; simp)
                  clear gd HBY GD TT XX
                  go_wp2_with (go_at_call 21; refine BY.out.mono ?_; rintro e wb ⟨rfl, hst, hc⟩; have ST := hid hst; have CB := hid (CN.out.far1 hc PP.out); clear hst hc)
                  clear hv BY CN CX
                  go_loopw [11, 12] (fun vo vi wr => ∃ (q : Nat) (okb : Bool), q ≤ i ∧ vi = .int .i64 q ∧ vo = .bool okb ∧ Hid (1 ≠ 2 → okb = true) ∧ Hid (Good 1 wr p ((L.drop q).flatMap le8 ++ S.flatMap bt8) ∨ Bad 1 wr p) ∧ Ch (fun _ => False) W0 wr) (fun _ vi _ => i - (intOf vi).toNat)
                  case atStart => exact ⟨0, _, by omega, rfl, rfl, by first | exact OK | exact hid (fun _ => rfl), ST, CB.out⟩
                  case round =>
                    obtain ⟨q, okb, hq, rfl, rfl, hok, hst, hc4⟩ := hrel
                    have C4 := hid hc4
                    clear hc4
                    by_cases hltq : q < i
                    · obtain ⟨z, hz⟩ : ∃ z, L[q]? = some z := ⟨_, List.getElem?_eq_getElem (by rw [LL.out]; exact hltq)⟩
                      obtain ⟨bb, oo, hbb⟩ := H0.out.spot (by intro e; have := congrArg List.length e; rw [iv_length, LL.out] at this; simp at this; omega)
                      subst hbb
                      have hcell := H0.out.at_ (j := q) (by rw [iv_get, hz]; rfl)
                      have CELL := hid hcell
                      have c4 := (C20.out.f C4.out).cell hcell id
                      have c4' : wr.drew.cell? ⟨bb, oo + q, none⟩ = some (.int .i64 z) := c4
                      have hltqi : (q : Int) < (i : Int) := by omega
                      have q0 : (0 : Int) ≤ q := by omega
                      have hst2 := hst.out
                      rw [ints_cons hz, List.append_assoc] at hst2
                      have WAY := int_way (Q0.out z (List.mem_of_getElem? hz)) hst2
                      clear hst hst2 hz hcell
                      go_wp2
                      rcases WAY with way | ⟨hm, way⟩
                      · have WY := hid way
                        clear way
                        go_region_with (go_at_call 20; refine (WY.out _ ?s1).mono ?_; (case s1 => exact (Ch.refl (fun _ => False) _).drew); rintro e wz ⟨rfl, hg, hc⟩; have HG := hid hg; have CZ := hid (C4.out.drew.far1 hc PP.out); have cz := (C20.out.f CZ.out).cell CELL.out id; clear hg hc)
                        all_goals (
                          go_wp2
                          go_roundw
                          case rel => exact ⟨q + 1, okb, by omega, by go_num, rfl, hok, hid (.inl HG.out), CZ.out⟩
                          case measure => simp [intOf]; omega)
                      · have WY := hid way
                        clear way
                        exact absurd hm (by decide)
                    · obtain rfl : q = i := by omega
                      have hbq : decide ((q : Int) < (q : Int)) = false := decide_eq_false (by omega)
                      have hdr : L.drop q = [] := List.drop_of_length_le (by rw [LL.out]; exact Nat.le_refl _)
                      rw [hdr] at hst
                      clear hdr
                      simp only [List.flatMap_nil, List.nil_append] at hst
                      have OK := hok
                      have ST := hst
                      have CB := C4
                      clear hok hst C4
                      go_wp2
                      go_loopw [11, 13] (fun vo vi wr => ∃ (q : Nat) (okb : Bool), q ≤ j ∧ vi = .int .i64 q ∧ vo = .bool okb ∧ Hid (1 ≠ 2 → okb = true) ∧ Hid (Good 1 wr p ((S.drop q).flatMap bt8) ∨ Bad 1 wr p) ∧ Ch (fun _ => False) W0 wr) (fun _ vi _ => j - (intOf vi).toNat)
                      case atStart => exact ⟨0, _, by omega, rfl, rfl, by first | exact OK | exact hid (fun _ => rfl), ST, CB.out⟩
                      case round =>
                        obtain ⟨q, okb, hq, rfl, rfl, hok, hst, hc4⟩ := hrel
                        have C4 := hid hc4
                        clear hc4
                        by_cases hltq : q < j
                        · obtain ⟨z, hz⟩ : ∃ z, S[q]? = some z := ⟨_, List.getElem?_eq_getElem (by rw [SS.out]; exact hltq)⟩
                          obtain ⟨z, rfl⟩ := str_of z
                          have ebt : bt8 (str z) = txt z := by unfold bt8; rw [str_data]
                          obtain ⟨bb, oo, hbb⟩ := H1.out.spot (by intro e; have := congrArg List.length e; simp [sv, SS.out] at this; omega)
                          subst hbb
                          have hcell := H1.out.at_ (j := q) (by rw [sv_get, hz]; rfl)
                          have CELL := hid hcell
                          have c4 := (C20.out.f C4.out).cell hcell id
                          have c4' : wr.drew.cell? ⟨bb, oo + q, none⟩ = some (.string (str z)) := c4
                          have hltqi : (q : Int) < (j : Int) := by omega
                          have q0 : (0 : Int) ≤ q := by omega
                          have hst2 := hst.out
                          rw [strs_cons hz, ebt] at hst2
                          have WAY := text_way (by have := HALL.out q (str z) hltq hz; rw [str_size] at this; exact this) hst2
                          clear ebt
                          clear hst hst2 hz hcell
                          go_wp2
                          rcases WAY with way | ⟨hm, way⟩
                          · have WY := hid way
                            clear way
                            go_region_with (go_at_call 23; refine (WY.out _ ?s1).mono ?_; (case s1 => exact (Ch.refl (fun _ => False) _).drew); rintro e wz ⟨rfl, hg, hc⟩; have HG := hid hg; have CZ := hid (C4.out.drew.far1 hc PP.out); have cz := (C20.out.f CZ.out).cell CELL.out id; clear hg hc)
                            all_goals (
                              go_wp2
                              go_roundw
                              case rel => exact ⟨q + 1, okb, by omega, by go_num, rfl, hok, hid (.inl HG.out), CZ.out⟩
                              case measure => simp [intOf]; omega)
                          · have WY := hid way
                            clear way
                            exact absurd hm (by decide)
                        · obtain rfl : q = j := by omega
                          have hbq : decide ((q : Int) < (q : Int)) = false := decide_eq_false (by omega)
                          have hdr : S.drop q = [] := List.drop_of_length_le (by rw [SS.out]; exact Nat.le_refl _)
                          rw [hdr] at hst
                          clear hdr
                          simp only [List.flatMap_nil] at hst
                          obtain ⟨lz, ez, hrz, hez⟩ := end_way hst.out
                          have RZ := hid hrz
                          have EZ := hid hez
                          clear hst hrz hez
                          have okt := hok.out (by decide)
                          subst okt
                          go_wp2_with (go_at_call 22; refine (end_any p lz ez _ RZ.out).mono ?_; rw [EZ.out]; simp only [if_true, show ((1 : Nat) = 0) = False from by simp, if_false]; rintro e wy ⟨rfl, rfl⟩)
                          go_roundw
                          case rel => exact ⟨2, by omega, rfl, C4.out⟩
                          case measure => simp [intOf]
                · go_upto_region 24 with (fail)
                  have XX : Hid (Sl wr 1 b2 (m2 - 1) cb2 (bv (T.dropLast))) := hid (X3.out.front (m2 - 1) (by omega) (by rw [List.dropLast_eq_take, hTl]))
                  have TT : tl 2 T (T.dropLast) := .inr (.inr ⟨rfl, fun h => by rw [h] at hTl; simp at hTl; omega, rfl⟩)
                  have CX : Hid (Ch (fun _ => False) W0 wr) := C3
                  go_upto_region 25 with (go_at_call 19; refine (new1_any b2 (m2 - 1) cb2 (T.dropLast) _ XX.out (by omega)).mono ?_; rintro e wn ⟨p, rfl, hr, hp, hc⟩; have PP := hid (Nat.le_trans CX.out.size hp); have CN := hid (CX.out.f hc); have GD := hid (⟨_, hr, TT⟩ : Good 2 wn p T); clear hr hp hc)
                  have gd := GD.out
                  rw [HT2.out] at gd
                  obtain ⟨v, hv, HBY⟩ : ∃ v : Int, (2 ≠ 2 → v = i) ∧ Calls Try.prog 21 #[.pointer (some ⟨p, 0, none⟩)] wn fun en w' => en = .returned (.int .i64 v) ∧ (Good 2 w' p (L.flatMap le8 ++ S.flatMap bt8) ∨ Bad 2 w' p) ∧ Ch (fun k => k = p) wn w' := by
                    rcases byte_way n20 gd with h | ⟨h2, h⟩
                    · exact ⟨i, fun _ => rfl, h⟩
                    · exact ⟨0, fun h' => absurd h2 h', h⟩
                  have BY := hid HBY
                  have OK : Hid (2 ≠ 2 → (v == (i : Int)) = true) := hid (fun h => by rw [hv h]; simp)
                  clear gd HBY GD TT XX
                  go_wp2_with (go_at_call 21; refine BY.out.mono ?_; rintro e wb ⟨rfl, hst, hc⟩; have ST := hid hst; have CB := hid (CN.out.far1 hc PP.out); clear hst hc)
                  clear hv BY CN CX
                  go_loopw [11, 12] (fun vo vi wr => ∃ (q : Nat) (okb : Bool), q ≤ i ∧ vi = .int .i64 q ∧ vo = .bool okb ∧ Hid (2 ≠ 2 → okb = true) ∧ Hid (Good 2 wr p ((L.drop q).flatMap le8 ++ S.flatMap bt8) ∨ Bad 2 wr p) ∧ Ch (fun _ => False) W0 wr) (fun _ vi _ => i - (intOf vi).toNat)
                  case atStart => exact ⟨0, _, by omega, rfl, rfl, by first | exact OK | exact hid (fun _ => rfl), ST, CB.out⟩
                  case round =>
                    obtain ⟨q, okb, hq, rfl, rfl, hok, hst, hc4⟩ := hrel
                    have C4 := hid hc4
                    clear hc4
                    by_cases hltq : q < i
                    · obtain ⟨z, hz⟩ : ∃ z, L[q]? = some z := ⟨_, List.getElem?_eq_getElem (by rw [LL.out]; exact hltq)⟩
                      obtain ⟨bb, oo, hbb⟩ := H0.out.spot (by intro e; have := congrArg List.length e; rw [iv_length, LL.out] at this; simp at this; omega)
                      subst hbb
                      have hcell := H0.out.at_ (j := q) (by rw [iv_get, hz]; rfl)
                      have CELL := hid hcell
                      have c4 := (C20.out.f C4.out).cell hcell id
                      have c4' : wr.drew.cell? ⟨bb, oo + q, none⟩ = some (.int .i64 z) := c4
                      have hltqi : (q : Int) < (i : Int) := by omega
                      have q0 : (0 : Int) ≤ q := by omega
                      have hst2 := hst.out
                      rw [ints_cons hz, List.append_assoc] at hst2
                      have WAY := int_way (Q0.out z (List.mem_of_getElem? hz)) hst2
                      clear hst hst2 hz hcell
                      go_wp2
                      rcases WAY with way | ⟨hm, way⟩
                      · have WY := hid way
                        clear way
                        go_region_with (go_at_call 20; refine (WY.out _ ?s1).mono ?_; (case s1 => exact (Ch.refl (fun _ => False) _).drew); rintro e wz ⟨rfl, hg, hc⟩; have HG := hid hg; have CZ := hid (C4.out.drew.far1 hc PP.out); have cz := (C20.out.f CZ.out).cell CELL.out id; clear hg hc)
                        all_goals (
                          go_wp2
                          go_roundw
                          case rel => exact ⟨q + 1, okb, by omega, by go_num, rfl, hok, hid (.inl HG.out), CZ.out⟩
                          case measure => simp [intOf]; omega)
                      · have WY := hid way
                        clear way
                        by_cases hz0 : z = 0
                        · subst hz0
                          go_region_with (go_at_call 20; refine (WY.out _ ?s1).mono ?_; (case s1 => exact (Ch.refl (fun _ => False) _).drew); rintro e wz ⟨rfl, hg, hc⟩; have HG := hid hg; have CZ := hid (C4.out.drew.far1 hc PP.out); have cz := (C20.out.f CZ.out).cell CELL.out id; clear hg hc)
                          all_goals (
                            go_wp2
                            go_roundw
                            case rel => exact ⟨q + 1, okb, by omega, by go_num, rfl, hok, hid (.inr HG.out), CZ.out⟩
                            case measure => simp [intOf]; omega)
                        · have ez : ((0 : Int) == z) = false := by exact beq_eq_false_iff_ne.2 (fun h => hz0 h.symm)
                          refine wp_region_any (by kernel_rfl) ?_
                          try (change wpAny _ _ _ _ _ _ _ (World.drew _))
                          refine wpAny_take (i := 0) (v := ?_) rfl (by kernel_rfl) (by kernel_rfl) (by kernel_rfl) (fun _ _ _ h => h) (Or.inl ⟨by rfl, ?_⟩) ?_
                          rotate_left
                          · intro W_
                            go_simp
                            try with_reducible rfl
                          refine wpAny_take (i := 2) (v := ?_) rfl (by kernel_rfl) (by kernel_rfl) (by kernel_rfl) (fun _ _ _ h => h) (Or.inl ⟨by rfl, ?_⟩) ?_
                          rotate_left
                          · intro W_
                            go_simp
                            try with_reducible rfl
                          refine wpAny_take (i := 3) (v := ?_) rfl (by kernel_rfl) (by kernel_rfl) (by kernel_rfl) (fun _ _ _ h => h) (Or.inl ⟨by rfl, ?_⟩) ?_
                          rotate_left
                          · intro W_
                            go_simp
                            try with_reducible rfl
                          refine wpAny_take (i := 4) (v := ?_) rfl (by kernel_rfl) (by kernel_rfl) (by kernel_rfl) (fun _ _ _ h => h) (Or.inl ⟨by rfl, ?_⟩) ?_
                          rotate_left
                          · intro W_
                            go_simp
                            try with_reducible rfl
                          refine wpAny_ready (rs := [1, 5]) (by kernel_rfl) (by simp) ?_
                          refine AllReady.cons rfl (fun K hK => ?_) ?_
                          · go_simp
                            go_wp2_with (go_at_call 20; refine (WY.out _ ?s1).mono ?_; (case s1 => exact (Ch.refl (fun _ => False) _).drew); rintro e wz ⟨rfl, hg, hc⟩; have HG := hid hg; have CZ := hid (C4.out.drew.far1 hc PP.out); have cz := (C20.out.f CZ.out).cell CELL.out id; clear hg hc)
                            try (refine hK _ _ ?_; clear hK K)
                            refine wpAny_ready (rs := [5]) (by kernel_rfl) (by simp) ?_
                            refine AllReady.cons rfl (fun K hK => ?_) ?_
                            · go_simp
                              try (refine hK _ _ ?_; clear hK K)
                              refine wpAny_take (i := 6) (v := ?_) rfl (by kernel_rfl) (by kernel_rfl) (by kernel_rfl) (fun _ _ _ h => h) (Or.inl ⟨by rfl, ?_⟩) ?_
                              rotate_left
                              · intro W_
                                go_simp
                                try with_reducible rfl
                              refine wpAny_take (i := 7) (v := ?_) rfl (by kernel_rfl) (by kernel_rfl) (by kernel_rfl) (fun _ _ _ h => h) (Or.inl ⟨by rfl, ?_⟩) ?_
                              rotate_left
                              · intro W_
                                go_simp
                                try with_reducible rfl
                              refine wpAny_take (i := 8) (v := undef) rfl (by kernel_rfl) (by kernel_rfl) (by kernel_rfl) (fun _ _ _ h => h) (Or.inr ⟨by rfl, rfl⟩) ?_
                              refine wpAny_take (i := 9) (v := ?_) rfl (by kernel_rfl) (by kernel_rfl) (by kernel_rfl) (fun _ _ _ h => h) (Or.inl ⟨by rfl, ?_⟩) ?_
                              rotate_left
                              · intro W_
                                go_simp
                                try with_reducible rfl
                              refine wpAny_take (i := 10) (v := ?_) rfl (by kernel_rfl) (by kernel_rfl) (by kernel_rfl) (fun _ _ _ h => h) (Or.inl ⟨by rfl, ?_⟩) ?_
                              rotate_left
                              · intro W_
                                go_simp
                                try with_reducible rfl
                              refine wpAny_done (by kernel_rfl) ?_ _
                              go_wp2
                              go_roundw
                              case rel => exact ⟨q + 1, false, by omega, by go_num, rfl, hid (fun h => absurd rfl h), hid (.inr HG.out), CZ.out⟩
                              case measure => simp [intOf]; omega
                            · exact AllReady.nil
                          refine AllReady.cons rfl (fun K hK => ?_) ?_
                          · go_simp
                            try (refine hK _ _ ?_; clear hK K)
                            refine wpAny_ready (rs := [1]) (by kernel_rfl) (by simp) ?_
                            refine AllReady.cons rfl (fun K hK => ?_) ?_
                            · go_simp
                              go_wp2_with (go_at_call 20; refine (WY.out _ ?s1).mono ?_; (case s1 => exact (Ch.refl (fun _ => False) _).drew); rintro e wz ⟨rfl, hg, hc⟩; have HG := hid hg; have CZ := hid (C4.out.drew.far1 hc PP.out); have cz := (C20.out.f CZ.out).cell CELL.out id; clear hg hc)
                              try (refine hK _ _ ?_; clear hK K)
                              refine wpAny_take (i := 6) (v := ?_) rfl (by kernel_rfl) (by kernel_rfl) (by kernel_rfl) (fun _ _ _ h => h) (Or.inl ⟨by rfl, ?_⟩) ?_
                              rotate_left
                              · intro W_
                                go_simp
                                try with_reducible rfl
                              refine wpAny_take (i := 7) (v := ?_) rfl (by kernel_rfl) (by kernel_rfl) (by kernel_rfl) (fun _ _ _ h => h) (Or.inl ⟨by rfl, ?_⟩) ?_
                              rotate_left
                              · intro W_
                                go_simp
                                try with_reducible rfl
                              refine wpAny_take (i := 8) (v := undef) rfl (by kernel_rfl) (by kernel_rfl) (by kernel_rfl) (fun _ _ _ h => h) (Or.inr ⟨by rfl, rfl⟩) ?_
                              refine wpAny_take (i := 9) (v := ?_) rfl (by kernel_rfl) (by kernel_rfl) (by kernel_rfl) (fun _ _ _ h => h) (Or.inl ⟨by rfl, ?_⟩) ?_
                              rotate_left
                              · intro W_
                                go_simp
                                try with_reducible rfl
                              refine wpAny_take (i := 10) (v := ?_) rfl (by kernel_rfl) (by kernel_rfl) (by kernel_rfl) (fun _ _ _ h => h) (Or.inl ⟨by rfl, ?_⟩) ?_
                              rotate_left
                              · intro W_
                                go_simp
                                try with_reducible rfl
                              refine wpAny_done (by kernel_rfl) ?_ _
                              go_wp2
                              go_roundw
                              case rel => exact ⟨q + 1, false, by omega, by go_num, rfl, hid (fun h => absurd rfl h), hid (.inr HG.out), CZ.out⟩
                              case measure => simp [intOf]; omega
                            · exact AllReady.nil
                          exact AllReady.nil
                    · obtain rfl : q = i := by omega
                      have hbq : decide ((q : Int) < (q : Int)) = false := decide_eq_false (by omega)
                      have hdr : L.drop q = [] := List.drop_of_length_le (by rw [LL.out]; exact Nat.le_refl _)
                      rw [hdr] at hst
                      clear hdr
                      simp only [List.flatMap_nil, List.nil_append] at hst
                      have OK := hok
                      have ST := hst
                      have CB := C4
                      clear hok hst C4
                      go_wp2
                      go_loopw [11, 13] (fun vo vi wr => ∃ (q : Nat) (okb : Bool), q ≤ j ∧ vi = .int .i64 q ∧ vo = .bool okb ∧ Hid (2 ≠ 2 → okb = true) ∧ Hid (Good 2 wr p ((S.drop q).flatMap bt8) ∨ Bad 2 wr p) ∧ Ch (fun _ => False) W0 wr) (fun _ vi _ => j - (intOf vi).toNat)
                      case atStart => exact ⟨0, _, by omega, rfl, rfl, by first | exact OK | exact hid (fun _ => rfl), ST, CB.out⟩
                      case round =>
                        obtain ⟨q, okb, hq, rfl, rfl, hok, hst, hc4⟩ := hrel
                        have C4 := hid hc4
                        clear hc4
                        by_cases hltq : q < j
                        · obtain ⟨z, hz⟩ : ∃ z, S[q]? = some z := ⟨_, List.getElem?_eq_getElem (by rw [SS.out]; exact hltq)⟩
                          obtain ⟨z, rfl⟩ := str_of z
                          have ebt : bt8 (str z) = txt z := by unfold bt8; rw [str_data]
                          obtain ⟨bb, oo, hbb⟩ := H1.out.spot (by intro e; have := congrArg List.length e; simp [sv, SS.out] at this; omega)
                          subst hbb
                          have hcell := H1.out.at_ (j := q) (by rw [sv_get, hz]; rfl)
                          have CELL := hid hcell
                          have c4 := (C20.out.f C4.out).cell hcell id
                          have c4' : wr.drew.cell? ⟨bb, oo + q, none⟩ = some (.string (str z)) := c4
                          have hltqi : (q : Int) < (j : Int) := by omega
                          have q0 : (0 : Int) ≤ q := by omega
                          have hst2 := hst.out
                          rw [strs_cons hz, ebt] at hst2
                          have WAY := text_way (by have := HALL.out q (str z) hltq hz; rw [str_size] at this; exact this) hst2
                          clear ebt
                          clear hst hst2 hz hcell
                          go_wp2
                          rcases WAY with way | ⟨hm, way⟩
                          · have WY := hid way
                            clear way
                            go_region_with (go_at_call 23; refine (WY.out _ ?s1).mono ?_; (case s1 => exact (Ch.refl (fun _ => False) _).drew); rintro e wz ⟨rfl, hg, hc⟩; have HG := hid hg; have CZ := hid (C4.out.drew.far1 hc PP.out); have cz := (C20.out.f CZ.out).cell CELL.out id; clear hg hc)
                            all_goals (
                              go_wp2
                              go_roundw
                              case rel => exact ⟨q + 1, okb, by omega, by go_num, rfl, hok, hid (.inl HG.out), CZ.out⟩
                              case measure => simp [intOf]; omega)
                          · have WY := hid way
                            clear way
                            by_cases hz0 : z = []
                            · subst hz0
                              go_region_with (go_at_call 23; refine (WY.out _ ?s1).mono ?_; (case s1 => exact (Ch.refl (fun _ => False) _).drew); rintro e wz ⟨rfl, hg, hc⟩; have HG := hid hg; have CZ := hid (C4.out.drew.far1 hc PP.out); have cz := (C20.out.f CZ.out).cell CELL.out id; clear hg hc)
                              all_goals (
                                go_wp2
                                go_roundw
                                case rel => exact ⟨q + 1, okb, by omega, by go_num, rfl, hok, hid (.inr HG.out), CZ.out⟩
                                case measure => simp [intOf]; omega)
                            · have ez : z.isEmpty = false := by (cases z with | nil => exact absurd rfl hz0 | cons _ _ => rfl)
                              refine wp_region_any (by kernel_rfl) ?_
                              try (change wpAny _ _ _ _ _ _ _ (World.drew _))
                              refine wpAny_take (i := 0) (v := ?_) rfl (by kernel_rfl) (by kernel_rfl) (by kernel_rfl) (fun _ _ _ h => h) (Or.inl ⟨by rfl, ?_⟩) ?_
                              rotate_left
                              · intro W_
                                go_simp
                                try with_reducible rfl
                              refine wpAny_take (i := 2) (v := ?_) rfl (by kernel_rfl) (by kernel_rfl) (by kernel_rfl) (fun _ _ _ h => h) (Or.inl ⟨by rfl, ?_⟩) ?_
                              rotate_left
                              · intro W_
                                go_simp
                                try with_reducible rfl
                              refine wpAny_take (i := 3) (v := ?_) rfl (by kernel_rfl) (by kernel_rfl) (by kernel_rfl) (fun _ _ _ h => h) (Or.inl ⟨by rfl, ?_⟩) ?_
                              rotate_left
                              · intro W_
                                go_simp
                                try with_reducible rfl
                              refine wpAny_take (i := 4) (v := ?_) rfl (by kernel_rfl) (by kernel_rfl) (by kernel_rfl) (fun _ _ _ h => h) (Or.inl ⟨by rfl, ?_⟩) ?_
                              rotate_left
                              · intro W_
                                go_simp
                                try with_reducible rfl
                              refine wpAny_ready (rs := [1, 5]) (by kernel_rfl) (by simp) ?_
                              refine AllReady.cons rfl (fun K hK => ?_) ?_
                              · go_simp
                                go_wp2_with (go_at_call 23; refine (WY.out _ ?s1).mono ?_; (case s1 => exact (Ch.refl (fun _ => False) _).drew); rintro e wz ⟨rfl, hg, hc⟩; have HG := hid hg; have CZ := hid (C4.out.drew.far1 hc PP.out); have cz := (C20.out.f CZ.out).cell CELL.out id; clear hg hc)
                                try (refine hK _ _ ?_; clear hK K)
                                refine wpAny_ready (rs := [5]) (by kernel_rfl) (by simp) ?_
                                refine AllReady.cons rfl (fun K hK => ?_) ?_
                                · go_simp
                                  try (refine hK _ _ ?_; clear hK K)
                                  refine wpAny_take (i := 6) (v := ?_) rfl (by kernel_rfl) (by kernel_rfl) (by kernel_rfl) (fun _ _ _ h => h) (Or.inl ⟨by rfl, ?_⟩) ?_
                                  rotate_left
                                  · intro W_
                                    go_simp
                                    try with_reducible rfl
                                  refine wpAny_take (i := 7) (v := ?_) rfl (by kernel_rfl) (by kernel_rfl) (by kernel_rfl) (fun _ _ _ h => h) (Or.inl ⟨by rfl, ?_⟩) ?_
                                  rotate_left
                                  · intro W_
                                    go_simp
                                    try with_reducible rfl
                                  refine wpAny_take (i := 8) (v := undef) rfl (by kernel_rfl) (by kernel_rfl) (by kernel_rfl) (fun _ _ _ h => h) (Or.inr ⟨by rfl, rfl⟩) ?_
                                  refine wpAny_take (i := 9) (v := ?_) rfl (by kernel_rfl) (by kernel_rfl) (by kernel_rfl) (fun _ _ _ h => h) (Or.inl ⟨by rfl, ?_⟩) ?_
                                  rotate_left
                                  · intro W_
                                    go_simp
                                    try with_reducible rfl
                                  refine wpAny_take (i := 10) (v := ?_) rfl (by kernel_rfl) (by kernel_rfl) (by kernel_rfl) (fun _ _ _ h => h) (Or.inl ⟨by rfl, ?_⟩) ?_
                                  rotate_left
                                  · intro W_
                                    go_simp
                                    try with_reducible rfl
                                  refine wpAny_done (by kernel_rfl) ?_ _
                                  go_wp2
                                  go_roundw
                                  case rel => exact ⟨q + 1, false, by omega, by go_num, rfl, hid (fun h => absurd rfl h), hid (.inr HG.out), CZ.out⟩
                                  case measure => simp [intOf]; omega
                                · exact AllReady.nil
                              refine AllReady.cons rfl (fun K hK => ?_) ?_
                              · go_simp
                                try (refine hK _ _ ?_; clear hK K)
                                refine wpAny_ready (rs := [1]) (by kernel_rfl) (by simp) ?_
                                refine AllReady.cons rfl (fun K hK => ?_) ?_
                                · go_simp
                                  go_wp2_with (go_at_call 23; refine (WY.out _ ?s1).mono ?_; (case s1 => exact (Ch.refl (fun _ => False) _).drew); rintro e wz ⟨rfl, hg, hc⟩; have HG := hid hg; have CZ := hid (C4.out.drew.far1 hc PP.out); have cz := (C20.out.f CZ.out).cell CELL.out id; clear hg hc)
                                  try (refine hK _ _ ?_; clear hK K)
                                  refine wpAny_take (i := 6) (v := ?_) rfl (by kernel_rfl) (by kernel_rfl) (by kernel_rfl) (fun _ _ _ h => h) (Or.inl ⟨by rfl, ?_⟩) ?_
                                  rotate_left
                                  · intro W_
                                    go_simp
                                    try with_reducible rfl
                                  refine wpAny_take (i := 7) (v := ?_) rfl (by kernel_rfl) (by kernel_rfl) (by kernel_rfl) (fun _ _ _ h => h) (Or.inl ⟨by rfl, ?_⟩) ?_
                                  rotate_left
                                  · intro W_
                                    go_simp
                                    try with_reducible rfl
                                  refine wpAny_take (i := 8) (v := undef) rfl (by kernel_rfl) (by kernel_rfl) (by kernel_rfl) (fun _ _ _ h => h) (Or.inr ⟨by rfl, rfl⟩) ?_
                                  refine wpAny_take (i := 9) (v := ?_) rfl (by kernel_rfl) (by kernel_rfl) (by kernel_rfl) (fun _ _ _ h => h) (Or.inl ⟨by rfl, ?_⟩) ?_
                                  rotate_left
                                  · intro W_
                                    go_simp
                                    try with_reducible rfl
                                  refine wpAny_take (i := 10) (v := ?_) rfl (by kernel_rfl) (by kernel_rfl) (by kernel_rfl) (fun _ _ _ h => h) (Or.inl ⟨by rfl, ?_⟩) ?_
                                  rotate_left
                                  · intro W_
                                    go_simp
                                    try with_reducible rfl
                                  refine wpAny_done (by kernel_rfl) ?_ _
                                  go_wp2
                                  go_roundw
                                  case rel => exact ⟨q + 1, false, by omega, by go_num, rfl, hid (fun h => absurd rfl h), hid (.inr HG.out), CZ.out⟩
                                  case measure => simp [intOf]; omega
                                · exact AllReady.nil
                              exact AllReady.nil
                        · obtain rfl : q = j := by omega
                          have hbq : decide ((q : Int) < (q : Int)) = false := decide_eq_false (by omega)
                          have hdr : S.drop q = [] := List.drop_of_length_le (by rw [SS.out]; exact Nat.le_refl _)
                          rw [hdr] at hst
                          clear hdr
                          simp only [List.flatMap_nil] at hst
                          obtain ⟨lz, ez, hrz, hez⟩ := end_way hst.out
                          have RZ := hid hrz
                          have EZ := hid hez
                          clear hst hrz hez
                          go_wp2_with (go_at_call 22; refine (end_any p lz ez _ RZ.out).mono ?_; rw [EZ.out]; simp only [show ((2 : Nat) = 0) = False from by simp, show ((2 : Nat) = 1) = False from by simp, if_false]; rintro e wy ⟨rfl, rfl⟩)
                          go_roundw
                          case rel => exact ⟨3, by omega, rfl, C4.out⟩
                          case measure => simp [intOf]
                · go_wp2
                  go_ret
                  exact ⟨rfl, C20.out.f C3.out⟩
end Go.Proofs.Yteleabfbnlhkkaa

/- The statement DeltaOps: its walk. -/
import Derived.Test.YtpcgamgjgfdpaaaL8M
import Derived.Test.YtpcgamgjgfdpaaaArgs8
namespace Go.Proofs.Ytpcgamgjgfdpaaa
namespace Cd
open Go.RowKit Go.Cx Go.OpM Go.Proofs.Ytpcgamgjgfdpaaa.Q Go.Proofs.YtpcgamgjgfdpaaaW.PrintWords Go.Proofs.YtpcgamgjgfdpaaaW.PrintLast Go.Proofs.YtpcgamgjgfdpaaaW.PrintMore
set_option linter.unusedVariables false
set_option linter.unusedSimpArgs false

/-! ### What is made -/
theorem mem_sz {l : List Cm} {c : Cm} (h : c ∈ l) : inC [c] ≤ inC l ∧ outC [c] ≤ outC l := by
  obtain ⟨s, t, rfl⟩ := List.append_of_mem h
  have e : s ++ c :: t = s ++ ([c] ++ t) := rfl
  rw [e, inC_append, inC_append, outC_append, outC_append]
  omega
theorem oS_cm (y : S34) : oS y = ⟨(cm y).k, (cm y).n, (cm y).s⟩ := by
  obtain ⟨a, b, c⟩ := y
  obtain ⟨l, rfl⟩ := str_of c
  unfold oS cm
  simp only [str_toList]
  rfl
theorem made_ok {n : Nat} {r : List S34} (h : Made n r) (hn : n ≤ 100) : ∀ x ∈ r.map oS, (0 ≤ x.k ∧ x.k ≤ 255 ∧ I64 x.n ∧ x.s.length ≤ 1000) ∧ chk x.k x.n x.s = 0 := by
  intro x hx
  obtain ⟨y, hy, rfl⟩ := List.mem_map.1 hx
  have hm : cm y ∈ cms r := List.mem_map_of_mem hy
  have hok := h.vl _ hm
  obtain ⟨h1, h2⟩ := mem_sz hm
  have hi := h.ins
  have ho := h.outs
  rw [oS_cm]
  generalize cm y = c at *
  rcases Cm.cases hok with ⟨m, hm, rfl⟩ | ⟨s, hs, rfl⟩ | ⟨m, hm, rfl⟩
  · have e : inC [⟨1, (m : Int), []⟩] = m := by simp [inC, at_, Cm.at_]
    rw [e] at h1
    refine ⟨⟨by dsimp only; omega, by dsimp only; omega, ⟨by dsimp only; omega, by dsimp only; omega⟩, by simp⟩, ?_⟩
    unfold chk
    rw [if_pos (.inl rfl), if_neg (by simp; omega)]
  · have e : outC [⟨2, 0, s⟩] = s.length := by simp [outC, at_, Cm.at_]
    rw [e] at h2
    refine ⟨⟨by dsimp only; omega, by dsimp only; omega, ⟨by dsimp only; omega, by dsimp only; omega⟩, by dsimp only; omega⟩, ?_⟩
    unfold chk
    rw [if_neg (by dsimp only; omega), if_pos rfl, if_neg (by simp [hs]), if_neg (by dsimp only; omega)]
  · have e : inC [⟨3, (m : Int), []⟩] = m := by simp [inC, at_, Cm.at_]
    rw [e] at h1
    refine ⟨⟨by dsimp only; omega, by dsimp only; omega, ⟨by dsimp only; omega, by dsimp only; omega⟩, by simp⟩, ?_⟩
    unfold chk
    rw [if_pos (.inr rfl), if_neg (by simp; omega)]
theorem intsC {w : World} {A : Option Addr} {n c : Nat} {l : List Int} (h : Sl w 1 A n c (iv l)) : Kd.C (Kd.int .i64) w A l.length l ∧ l.length = n ∧ n ≤ c := by
  have hl : l.length = n := by have := h.1; rw [iv_length] at this; omega
  refine ⟨⟨rfl, by have := h.2.1; have := h.2.2.1; unfold maxLen at this; omega, fun h0 => ?_⟩, hl, h.2.1⟩
  cases A with
  | none => have := h.none_zero; omega
  | some b =>
    refine ⟨b, rfl, fun j p hj => ⟨[.int .i64 p], rfl, rfl, fun i u hu => ?_⟩⟩
    match i, hu with
    | 0, hu =>
      simp at hu
      subst hu
      exact h.2.2.2.2 b rfl _ _ (by show (iv l)[j * 1 + 0]? = _; rw [Nat.mul_one, Nat.add_zero, iv_get, hj]; rfl)
    | i + 1, hu => simp at hu
theorem make_any (w : World) (m : Nat) (hm : m ≤ 100) (A : Option Addr) (n c : Nat) (l : List Int) (h : Sl w 1 A n c (iv l)) : ∃ o : List O3, o.length ≤ 14 ∧ (∀ x ∈ o, (0 ≤ x.k ∧ x.k ≤ 255 ∧ I64 x.n ∧ x.s.length ≤ 1000) ∧ chk x.k x.n x.s = 0) ∧
    ∀ w' : World, Ch (fun _ => False) w w' → Calls Try.prog 19 #[.int .i64 m, .slice A n c] w' fun e w2 => ∃ a k, e = .returned (.slice a o.length k) ∧ OpsAt w2 a o.length o ∧ o.length ≤ k ∧ Ch (fun _ => False) w' w2 := by
  obtain ⟨hC, hl, hc⟩ := intsC h
  obtain ⟨r, hr, hM, _⟩ := make_eq m (by omega) l
  refine ⟨r.map oS, by rw [List.length_map]; exact hM.len, made_ok hM hm, fun w' hw => ?_⟩
  have := comitialaw4_Make.calls 60 m A c l r w' (Kd.C_below hC hw.below0) (by omega) (hr 60 (Nat.le_refl _))
  rw [hl] at this
  refine this.mono ?_
  rintro e w2 ⟨v, rfl, hR, hb⟩
  obtain ⟨a, k, rfl, hk, hCr⟩ := Kd.R_reads hR
  rw [List.length_map]
  exact ⟨a, k, rfl, opsO hCr, hk, Ch.of_below hb⟩
theorem rdN_len : ∀ (m : Nat) (l : List UInt8) (e : Int), (rdN m l e).1.length = m
  | 0, l, e => rfl
  | m + 1, l, e => by simp only [rdN, List.length_cons, rdN_len m]
theorem parse_len (chk : List O3 → Int) (B : List UInt8) : (parse chk B).1.length ≤ 40 := by
  unfold parse
  by_cases h : 40 < (rdB B 0).1
  · rw [if_pos h]; simp
  · rw [if_neg h]
    have e := rdN_len (rdB B 0).1.toNat (rdB B 0).2.1 (rdB B 0).2.2
    unfold fin
    split
    · split
      · simp only; omega
      · simp
    · simp
set_option maxRecDepth 100000 in
set_option maxHeartbeats 4000000 in
theorem DeltaOps_walk0 (w : World) (x0 : Int) (a1 : Option Addr) (n1 c1 : Nat) (l1 : List Int) (h1 : Sl w 1 a1 n1 c1 (iv l1)) (a2 : Option Addr) (n2 c2 : Nat) (L : List O3) (h2 : OpsAt w a2 n2 L) (hc2 : n2 ≤ c2) (hn2 : n2 ≤ 9223372036854775807) :
    Calls Try.prog 7 #[.int .i64 x0, .slice a1 n1 c1, .slice a2 n2 c2] w fun e w' => e = .returned (.bool true) ∧ Below w.heap.size w w' := by
  refine Calls.mono (R := True_ w) ?_ (fun e w' h => ⟨h.1, h.2.below0⟩)
  have H2 := hid h2
  have t0 := Int.emod_nonneg x0 (by omega : (100 : Int) ≠ 0)
  have t1 := Int.emod_lt_of_pos x0 (by omega : (0 : Int) < 100)
  obtain ⟨m, hm⟩ : ∃ m : Nat, (m : Int) = x0 % 100 := ⟨(x0 % 100).toNat, by omega⟩
  obtain ⟨o, ho14, hoall, hmk⟩ := make_any w m (by omega) a1 n1 c1 l1 h1
  have HM := hid hm
  have MK := hid hmk
  have OA := hid hoall
  obtain ⟨F, hF⟩ : ∃ F, F = ((L.all fun x => decide (x.s.length ≤ 150)) && decide (n2 ≤ 50)) := ⟨_, rfl⟩
  have HF := hid hF
  clear t0 t1 hm hmk hoall hF h1 h2
  cases F with
  | false =>
    go_enter Try.func7, Try.ntmps7
    go_wp2_with (first
      | (go_at_call 9; refine (known8_any _).mono ?_; rintro e w1 ⟨rfl, hc1⟩; have C1 := hid hc1; clear hc1)
      | (go_at_call 14; refine (few_any _ a2 n2 c2 L (H2.out.below C1.out) hc2 hn2).mono ?_; rw [← HF.out]; rintro e w2 ⟨rfl, hc⟩; have C2 := hid (C1.out.f hc); clear hc))
    go_ret
    exact ⟨rfl, C2.out⟩
  | true =>
    have hf := HF.out
    rw [eq_comm, Bool.and_eq_true, List.all_eq_true, decide_eq_true_iff] at hf
    have hn50 := hf.2
    have LS := hid (show ∀ x ∈ L, x.s.length ≤ 1000 from fun x hx => by have := of_decide_eq_true (hf.1 x hx); omega)
    have OS := hid (show ∀ x ∈ o, x.s.length ≤ 1000 from fun x hx => (OA.out x hx).1.2.2.2)
    have LL := hid H2.out.1
    have OLo := hid (oB_len o OS.out (by omega))
    have OLr := hid (oB_len L LS.out (by rw [LL.out]; omega))
    have PO := hid (parse_back o (by omega) (fun x hx => by
      obtain ⟨⟨q1, q2, q3, q4⟩, _⟩ := OA.out x hx
      exact ⟨q1, q2, q3, by omega⟩) (chkO_ok o (by omega) (fun x hx => (OA.out x hx).2)))
    obtain ⟨lr, ec, hpr⟩ : ∃ lr ec, parse chkO (oB L) = (lr, ec) := ⟨_, _, rfl⟩
    obtain ⟨mr, hmr⟩ : ∃ mr, lr.length = mr := ⟨_, rfl⟩
    obtain ⟨mo, hmo⟩ : ∃ mo, o.length = mo := ⟨_, rfl⟩
    rw [hmo] at MK ho14
    have PR := hid hpr
    have MR := hid hmr
    have MO := hid hmo
    have hmr2 : mr ≤ 1000 := by
      have := parse_len chkO (oB L)
      rw [hpr] at this
      dsimp only at this
      omega
    clear hf hpr hmr hmo
    go_enter Try.func7, Try.ntmps7
    have tk1 : True := trivial
    go_wp2_with (first
      | (go_at_call 9; refine (known8_any _).mono ?_; rintro e w1 ⟨rfl, hc1⟩; have C1 := hid hc1; clear hc1)
      | (go_at_call 14; refine (few_any _ a2 n2 c2 L (H2.out.below C1.out) hc2 hn2).mono ?_; rw [← HF.out]; rintro e w2 ⟨rfl, hc⟩; have C2 := hid (C1.out.f hc); clear hc)
      | (go_at_call 10; refine (within8_any x0 100 _ (by omega) (by omega)).mono ?_; rintro e w3 ⟨rfl, rfl⟩; rw [← HM.out])
      | (go_at_call 19; refine (MK.out _ C2.out).mono ?_; rintro e w3 ⟨ao, co, rfl, hops, hco, hc⟩; have C3 := hid (C2.out.f hc); have OO := hid hops; clear hc hops)
      | (go_at_call 17; clear tk1; refine (dbytes_any ao mo co o _ OO.out (by omega) hco OS.out).mono ?_; rintro e w4 ⟨a4, c4, rfl, hw4, hc⟩; have B4 := hid hw4; have C4 := hid (C3.out.f hc); have OO4 := hid (OO.out.below hc); clear hw4 hc)
      | (go_at_call 12; have q_ := B4; refine (dparse_is a4 _ c4 (oB o) _ B4.out.sl OLo.out o 0 mo PO.out MO.out).mono ?_; rintro e w5 ⟨a5, c5, rfl, hw5, hc⟩; have D5 := hid hw5; have C5 := hid (C4.out.f hc); have OO5 := hid (OO4.out.below hc); have hc5 := hw5.sl.2.1; clear hw5 hc B4 q_)
      | (go_at_call 17; refine (dbytes_any a2 n2 c2 L _ (H2.out.below C5.out) (by omega) hc2 LS.out).mono ?_; rintro e w6 ⟨a6, c6, rfl, hw6, hc⟩; have B6 := hid hw6; have C6 := hid (C5.out.f hc); have OO6 := hid (OO5.out.below hc); have D6 := hid (D5.out.f hc); clear hw6 hc)
      | (go_at_call 12; refine (dparse_is a6 _ c6 (oB L) _ B6.out.sl OLr.out lr ec mr PR.out MR.out).mono ?_; rintro e w7 ⟨a7, c7, rfl, hw7, hc⟩; have E7 := hid hw7; have C7 := hid (C6.out.f hc); have OO7 := hid (OO6.out.below hc); have D7 := hid (D6.out.f hc); have hc7 := hw7.sl.2.1; clear hw7 hc)
      | (go_at_call 13; refine (xbytes_any a2 n2 c2 L _ (H2.out.below C7.out) (by omega) hc2 LS.out).mono ?_; rintro e w8 ⟨a8, c8, rfl, hw8, hc⟩; have B8 := hid hw8; have C8 := hid (C7.out.f hc); have OO8 := hid (OO7.out.below hc); have D8 := hid (D7.out.f hc); have E8 := hid (E7.out.f hc); clear hw8 hc)
      | (go_at_call 20; refine (xparse_is a8 _ c8 (oB L) _ B8.out.sl OLr.out lr ec mr PR.out MR.out).mono ?_; rintro e w9 ⟨a9, c9, rfl, hw9, hc⟩; have G9 := hid hw9; have C9 := hid (C8.out.f hc); have OO9 := hid (OO8.out.below hc); have D9 := hid (D8.out.f hc); have E9 := hid (E8.out.f hc); have hc9 := hw9.sl.2.1; have tk2 := OO9; clear hw9 hc)
      | (go_at_call 21; have q_ := tk2; refine (same_any _ a5 ao mo c5 co o (OpsAt.own MO.out D9.out) OO9.out hc5 hco (by omega)).mono ?_; rintro e w10 ⟨rfl, hc⟩; have C10 := hid (C9.out.f hc); have E10 := hid (E9.out.f hc); have G10 := hid (G9.out.f hc); clear hc tk2 q_)
      | (go_at_call 21; refine (same_any _ a7 a9 mr c7 c9 lr (OpsAt.own MR.out E10.out) (OpsAt.own MR.out G10.out) hc7 hc9 hmr2).mono ?_; rintro e w11 ⟨rfl, hc⟩; have C11 := hid (C10.out.f hc); clear hc))
    go_ret
    exact ⟨by simp, C11.out⟩
def OpArg (w : World) (a : Option Addr) (n c : Nat) (l : List O3) : Prop := OpsAt w a n l ∧ n ≤ c ∧ n ≤ 9223372036854775807
end Cd
set_option linter.unusedVariables false
open Go.RowKit Go.Cx Cd
def OpArg := @Cd.OpArg
theorem op_row {H : Type} {enc : TypeId × Value → H} {w : World} {base : Nat} {spare : Nat → Bool} {held : Bool} {fuel : Nat} {a : Option Addr} {n c : Nat} {x : DataW H × List MemPlace}
    (h : DataW.trod enc Try.prog w base spare held fuel 28 (Value.slice a n c).cells.toList = some x) : ∃ l, OpArg w a n c l := by
  obtain ⟨l, h1, h2, h3, h4⟩ := ops_row h
  refine ⟨l.map fun p => ⟨p.1, p.2.1, p.2.2⟩, ⟨by rw [List.length_map]; exact h1, fun hn => ?_, fun b hb j u hu => ?_⟩, h2, by unfold maxLen at h3; omega⟩
  · obtain ⟨ad, e, _⟩ := h4 hn
    exact ⟨ad, e⟩
  · have hj : j < l.length * 3 := by
      have := (List.getElem?_eq_some_iff.1 hu).1
      rw [es_len, List.length_map] at this
      exact this
    have hq : j / 3 < l.length := by omega
    obtain ⟨ad, e, hc⟩ := h4 (by omega)
    rw [e] at hb
    cases hb
    obtain ⟨cs, _, e2, hcell⟩ := hc (j / 3) l[j / 3] (List.getElem?_eq_getElem hq)
    obtain ⟨g1, g2, g3⟩ := es_at (l.map fun p => (⟨p.1, p.2.1, p.2.2⟩ : O3)) (j / 3) ⟨l[j / 3].1, l[j / 3].2.1, l[j / 3].2.2⟩ (by rw [List.getElem?_map, List.getElem?_eq_getElem hq]; rfl)
    have e3 : j / 3 * 3 + j % 3 = j := by omega
    subst e2
    rcases (by omega : j % 3 = 0 ∨ j % 3 = 1 ∨ j % 3 = 2) with h0 | h0 | h0
    · rw [h0] at e3
      rw [← e3] at hu ⊢
      rw [Nat.add_zero] at hu ⊢
      rw [g1] at hu
      cases hu
      exact hcell 0 _ rfl
    · rw [h0] at e3
      rw [← e3] at hu ⊢
      rw [g2] at hu
      cases hu
      exact hcell 1 _ rfl
    · rw [h0] at e3
      rw [← e3] at hu ⊢
      rw [g3] at hu
      cases hu
      exact hcell 2 _ rfl
theorem DeltaOps_walk (w : World) (x0 : Int) (h0 : I64 x0) (a1 : Option Addr) (n1 c1 : Nat) (l1 : List Int) (h1 : Sl w 1 a1 n1 c1 (iv l1)) (q1 : ∀ z ∈ l1, I64 z) (a2 : Option Addr) (n2 c2 : Nat) (L : List O3) (h2 : OpArg w a2 n2 c2 L) :
    Calls Try.prog 7 #[.int .i64 x0, .slice a1 n1 c1, .slice a2 n2 c2] w fun e w' => e = .returned (.bool true) ∧ Below w.heap.size w w' := Cd.DeltaOps_walk0 w x0 a1 n1 c1 l1 h1 a2 n2 c2 L h2.1 h2.2.1 h2.2.2
end Go.Proofs.Ytpcgamgjgfdpaaa

/- delta.OpBytes, OpParse and the document's: walked. -/
import Derived.Test.YtpcgamgjgfdpaaaL8P
import Derived.Deep.RegionLaw
import Derived.WalkMore
import Derived.ScopeJumps
import Derived.Deep.Cut
import Derived.Deep.LoopGhost
namespace Go.Proofs.Ytpcgamgjgfdpaaa
namespace Cd
open Go.RowKit Go.Cx
set_option linter.unusedVariables false
set_option linter.unusedSimpArgs false

/-! ### A scope with one label, jumped back to -/
theorem wp_scope_again {P : Program} {a : Go.Act} {w : World} {Q : Exit → Act → World → Prop} {c body : Code} (l : Nat) (J : Act → World → Prop) (μ : Act → World → Nat) (hf : findLabel c l = some (Code.skip.seq body))
    (pass : ∀ a w, J a w → body.wp P (Exit.jump l (fun a' w' => J a' w' ∧ μ a' w' < μ a w) Q) a w)
    (first : (∀ a w, J a w → body.wp P (Exit.jump l J Q) a w) → c.wp P (Exit.jump l J Q) a w) : (Code.scope c).wp P Q a w :=
  wp_scope_jumps l J μ hf (first (fun a w h => wp_mono (pass a w h) (fun e a w hq => by cases e <;> first | exact hq | exact ⟨hq.1, hq.2.1⟩))) (fun a w h => wp_seq (wp_skip (pass a w h)))
/-- A part, as three cells. -/
structure O3 where
  k : Int
  n : Int
  s : List UInt8
def e3 (x : O3) : List Value := [.int .i64 x.k, .int .i64 x.n, .string (str x.s)]
def es (l : List O3) : List Value := l.flatMap e3
theorem es_len (l : List O3) : (es l).length = l.length * 3 := by
  induction l with
  | nil => rfl
  | cons c l ih => simp only [es, List.flatMap_cons, List.length_append, List.length_cons] at *; rw [ih]; simp [e3]; omega
theorem es_app (a b : List O3) : es (a ++ b) = es a ++ es b := by simp [es]
theorem es_one (l : List O3) : ∀ u ∈ es l, u.oneCell' = true := by
  intro u hu
  obtain ⟨p, _, hp⟩ := List.mem_flatMap.1 hu
  simp only [e3, List.mem_cons, List.not_mem_nil, or_false] at hp
  rcases hp with rfl | rfl | rfl <;> rfl
theorem es_at (l : List O3) : ∀ (j : Nat) (p : O3), l[j]? = some p → (es l)[j * 3]? = some (.int .i64 p.k) ∧ (es l)[j * 3 + 1]? = some (.int .i64 p.n) ∧ (es l)[j * 3 + 2]? = some (.string (str p.s)) := by
  induction l with
  | nil => intro j p h; simp at h
  | cons c l ih =>
    intro j p h
    cases j with
    | zero => simp at h; subst h; exact ⟨rfl, rfl, rfl⟩
    | succ j =>
      have := ih j p (by simpa using h)
      have e : ∀ i, (es (c :: l))[(j + 1) * 3 + i]? = (es l)[j * 3 + i]? := by
        intro i
        simp only [es, List.flatMap_cons]
        rw [List.getElem?_append_right (by simp [e3]; omega)]
        congr 1
        simp [e3]; omega
      exact ⟨(e 0).trans this.1, (e 1).trans this.2.1, (e 2).trans this.2.2⟩
/-- An operation that is only read. -/
def OpsAt (w : World) (A : Option Addr) (n : Nat) (l : List O3) : Prop := l.length = n ∧ (0 < n → ∃ b, A = some b) ∧ ∀ b, A = some b → ∀ j u, (es l)[j]? = some u → w.cell? (b.add j) = some u
theorem OpsAt.below {w w' : World} {A : Option Addr} {n : Nat} {l : List O3} (h : OpsAt w A n l) (hb : Ch (fun _ => False) w w') : OpsAt w' A n l :=
  ⟨h.1, h.2.1, fun b hbb j u hu => hb.cell (h.2.2 b hbb j u hu) id⟩
theorem OpsAt.at_ {w : World} {b o n : Nat} {l : List O3} (h : OpsAt w (some ⟨b, o, none⟩) n l) {i : Nat} {p : O3} (hp : l[i]? = some p) :
    w.cell? ⟨b, o + i * 3, none⟩ = some (.int .i64 p.k) ∧ w.cell? ⟨b, o + i * 3 + 1, none⟩ = some (.int .i64 p.n) ∧ w.cell? ⟨b, o + i * 3 + 2, none⟩ = some (.string (str p.s)) := by
  obtain ⟨h1, h2, h3⟩ := es_at l i p hp
  have q1 := h.2.2 _ rfl _ _ h1
  have q2 := h.2.2 _ rfl _ _ h2
  have q3 := h.2.2 _ rfl _ _ h3
  rw [add_eq] at q1 q2 q3
  exact ⟨q1, by rw [Nat.add_assoc]; exact q2, by rw [Nat.add_assoc]; exact q3⟩
theorem OpsAt.spot {w : World} {A : Option Addr} {n : Nat} {l : List O3} (h : OpsAt w A n l) (hn : 0 < n) : ∃ b o, A = some ⟨b, o, none⟩ := by
  obtain ⟨⟨b, o, sp⟩, rfl⟩ := h.2.1 hn
  have hl : 0 < l.length := by have := h.1; omega
  have h1 := (es_at l 0 l[0] (List.getElem?_eq_getElem hl)).1
  have := h.2.2 _ rfl _ _ h1
  have hs : sp = none := by simpa [Addr.add] using World.cell?_spot this
  exact ⟨b, o, by rw [hs]⟩
theorem OpsAt.own {w : World} {base : Nat} {a : Option Addr} {n c : Nat} {l : List O3} (hn : l.length = n) (h : Own w base 34 3 a n c (es l)) : OpsAt w a n l :=
  ⟨hn, fun h0 => by obtain ⟨g, e⟩ := h.some_ h0; exact ⟨_, e⟩, h.sl.2.2.2.2⟩
theorem et_comp : ElemT Try.prog 28 34 3 32 (.agg #[.int .i64 0, .int .i64 0, .string ⟨#[]⟩]) := ElemT.mk' Try.underlying28 (by kernel_rfl) rfl (by decide)

/-! ### Written -/
def cB (x : O3) : List UInt8 := [u8of x.k] ++ le8 x.n ++ txt x.s
def oP (l : List O3) (k : Nat) : List UInt8 := [u8of (l.length : Nat)] ++ (l.take k).flatMap cB
def oB (l : List O3) : List UInt8 := [u8of (l.length : Nat)] ++ l.flatMap cB
theorem txt_len (s : List UInt8) : (txt s).length = 2 + min s.length 65535 := by unfold txt; simp; omega
theorem cB_len (x : O3) : (cB x).length = 11 + min x.s.length 65535 := by unfold cB; simp [le8_length, txt_len]; omega
theorem oP_succ {l : List O3} {k : Nat} {x : O3} (h : l[k]? = some x) : oP l (k + 1) = oP l k ++ [u8of x.k] ++ le8 x.n ++ txt x.s := by
  unfold oP
  rw [List.take_add_one, h, List.flatMap_append]
  simp [cB]
theorem oP_len (l : List O3) (k : Nat) (hs : ∀ x ∈ l, x.s.length ≤ 1000) : (oP l k).length ≤ 1 + k * 1011 := by
  unfold oP
  have : ∀ m : List O3, (∀ x ∈ m, x.s.length ≤ 1000) → (m.flatMap cB).length ≤ m.length * 1011 := by
    intro m hm
    induction m with
    | nil => simp
    | cons c m ih =>
      have h1 := hm c (List.mem_cons_self ..)
      have h2 := ih (fun x hx => hm x (List.mem_cons_of_mem _ hx))
      rw [List.flatMap_cons, List.length_append, cB_len, List.length_cons, Nat.add_mul]
      omega
  have h1 := this (l.take k) (fun x hx => hs x (List.mem_of_mem_take hx))
  rw [List.length_append]
  have h2 : (l.take k).length ≤ k := by rw [List.length_take]; omega
  have h3 : (l.take k).length * 1011 ≤ k * 1011 := Nat.mul_le_mul_right _ h2
  simp only [List.length_singleton]
  omega
theorem oP_all (l : List O3) : oP l l.length = oB l := by unfold oP oB; rw [List.take_length]
def WPost (w : World) (l : List O3) (e : Ending) (w' : World) : Prop := ∃ a c, e = .returned (.slice a (oB l).length c) ∧ Own w' w.heap.size 5 1 a (oB l).length c (bv (oB l)) ∧ Ch (fun _ => False) w w'
attribute [local go_sem high] max_ints min_ints
def OBJ (w : World) (A : Option Addr) (n c : Nat) (l : List O3) (a' : Act) (w' : World) : Prop :=
  ∃ (k : Nat) (b : Option Addr) (m cb : Nat) (u1 u2 u5 u6 u7 u8 u9 u10 u11 u12 u13 u14 u15 u16 u17 u18 u19 u20 u21 u22 u23 u24 u25 u26 u27 u28 u29 u30 u31 u32 u33 : Value), a' = { tmps := #[.slice A n c, u1, u2, .slice b m cb, .int .i64 k, u5, u6, u7, u8, u9, u10, u11, u12, u13, u14, u15, u16, u17, u18, u19, u20, u21, u22, u23, u24, u25, u26, u27, u28, u29, u30, u31, u32, u33], defers := [] } ∧ k ≤ n ∧ m = (oP l k).length ∧
    Hid (Own w' w.heap.size 5 1 b m cb (bv (oP l k))) ∧ Hid (Ch (fun _ => False) w w')
set_option maxRecDepth 100000 in
set_option maxHeartbeats 4000000 in
theorem dbytes_any (A : Option Addr) (n c : Nat) (l : List O3) (w : World) (h : OpsAt w A n l) (hn : n ≤ 200) (hc : n ≤ c) (hs : ∀ x ∈ l, x.s.length ≤ 1000) :
    Calls Try.prog 17 #[.slice A n c] w (WPost w l) := by
  have H := hid h
  have HS := hid hs
  have HL := hid h.1
  have hcc : (n : Int) ≤ c := by omega
  clear h hs
  have e0 : [u8of (n : Nat)] = oP l 0 := by unfold oP; rw [HL.out]; simp
  have E0 := hid e0
  clear e0
  go_enter Try.func17, Try.ntmps17
  go_wp2
  refine wp_scope_again 0 (OBJ w A n c l) (fun a' _ => n - (intOf (a'.tmps.getD 4 undef)).toNat) rfl ?pass ?first
  case first =>
    intro PASS
    have HP := hid PASS
    clear PASS
    go_wp2_with (go_at_call 39; refine (byte_any none 0 0 [] (n : Nat) _ (Sl.nil _ _) (by omega)).mono ?_; rw [List.nil_append, E0.out]; rintro e w1 ⟨a1, c1, rfl, ho1, hc1⟩; have O1 := hid ho1; have C1 := hid hc1; clear ho1 hc1)
    refine wp_label ?_
    simp only [Exit.then]
    refine (show ∀ (a : Act) (w : World), Code.wp Try.prog _ _ a w → _ from by assumption) _ _ ?_
    exact HP.out _ _ ⟨0, _, _, _, _, _, _, _, _, _, _, _, _, _, _, _, _, _, _, _, _, _, _, _, _, _, _, _, _, _, _, _, _, _, _, rfl, Nat.zero_le _, by rw [← E0.out]; rfl, O1, C1⟩
  case pass =>
    rintro a' wr ⟨k, b, m, cb, u1, u2, u5, u6, u7, u8, u9, u10, u11, u12, u13, u14, u15, u16, u17, u18, u19, u20, u21, u22, u23, u24, u25, u26, u27, u28, u29, u30, u31, u32, u33, rfl, hk, hm, HO, HC⟩
    have hm2 := oP_len l k HS.out
    rw [← hm] at hm2
    have i0 : (0 : Int) ≤ k := by omega
    by_cases hlt : k < n
    · obtain ⟨x, hx⟩ : ∃ x, l[k]? = some x := ⟨_, List.getElem?_eq_getElem (by rw [HL.out]; exact hlt)⟩
      obtain ⟨B, o, rfl⟩ := H.out.spot (by omega)
      have hlti : (k : Int) < n := by omega
      have HX := hid hx
      have hxs := HS.out x (List.mem_of_getElem? hx)
      clear hx
      have FC := hid (fun (w1 : World) (hc1 : Ch (fun _ => False) w w1) => (H.out.below hc1).at_ HX.out)
      obtain ⟨p1, p2, p3⟩ := FC.out _ HC.out.drew
      have M1 : m ≤ 900000 := by omega
      have M2 : m + 1 ≤ 1000000 := by omega
      have M3 : m + 1 + 8 ≤ 900000 := by omega
      have M4 : x.s.length ≤ 1000000 := by omega
      have LEN := hid (show (oP l (k + 1)).length = m + 1 + 8 + 2 + min x.s.length 65535 by rw [oP_succ HX.out]; simp only [List.length_append, List.length_singleton, le8_length, txt_len]; omega)
      have SUC := hid (oP_succ HX.out)
      have HM := hid hm
      clear hm2 hxs hm
      go_upto_region 4 with (fail)
      go_region_with (first
        | (go_at_call 39; refine (byte_any b m cb (oP l k) x.k wr.drew (show Sl wr.drew 1 b m cb (bv (oP l k)) from HO.out.sl) M1).mono ?_; rintro e w1 ⟨a1, c1, rfl, ho1, hc1⟩; have O1 := hid ho1; have C1 := hid (HC.out.drew.f hc1); obtain ⟨r1, r2, r3⟩ := FC.out _ C1.out; clear ho1 hc1)
        | (go_at_call 41; refine (int_any a1 (m + 1) c1 (oP l k ++ [u8of x.k]) x.n w1 O1.out.sl M2).mono ?_; rintro e w2 ⟨a2, c2, rfl, ho2, hc2⟩; have O2 := hid ho2; have C2 := hid (C1.out.f hc2); obtain ⟨s1, s2, s3⟩ := FC.out _ C2.out; clear ho2 hc2)
        | (go_at_call 40; refine (text_any a2 (m + 1 + 8) c2 (oP l k ++ [u8of x.k] ++ le8 x.n) x.s w2 O2.out.sl M3 M4).mono ?_; rintro e w3 ⟨a3, c3, rfl, ho3, hc3⟩; rw [← SUC.out] at ho3; have O3 := hid (ho3.base_le (C2.out.size)); have C3 := hid (C2.out.f hc3); clear ho3 hc3))
      all_goals (
        go_wp2
        refine wp_goto ?_
        rw [show ((k : Int) + 1) = ((k + 1 : Nat) : Int) from by omega]
        refine ⟨by trivial, ⟨k + 1, a3, _, c3, _, _, _, _, _, _, _, _, _, _, _, _, _, _, _, _, _, _, _, _, _, _, _, _, _, _, _, _, _, _, _, rfl, by omega, LEN.out.symm, O3, C3⟩, ?_⟩
        show n - (intOf (.int .i64 ((k + 1 : Nat) : Int))).toNat < n - (intOf (.int .i64 ((k : Nat) : Int))).toNat
        simp only [intOf]
        omega)
    · have hlti : ¬ (k : Int) < n := by omega
      obtain rfl : k = n := by omega
      have HM := hid hm
      clear hm hm2
      go_wp2
      simp only [Exit.jump]
      go_ret
      have e := oP_all l
      rw [HL.out] at e
      have ho := HO.out
      have hm := HM.out
      rw [e] at ho hm
      subst hm
      exact ⟨_, _, rfl, ho, HC.out⟩
end Cd
end Go.Proofs.Ytpcgamgjgfdpaaa

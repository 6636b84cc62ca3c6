/- The statement DeltaMany: its walk; what both statements share. -/
import Derived.Test.YtpcgamgjgfdpaaaL8U
namespace Go.Proofs.Ytpcgamgjgfdpaaa
namespace Cd
open Go.RowKit Go.Cx Go.OpM Go.Proofs.Ytpcgamgjgfdpaaa.Q Go.Proofs.YtpcgamgjgfdpaaaW.PrintWords Go.Proofs.YtpcgamgjgfdpaaaW.PrintLast Go.Proofs.YtpcgamgjgfdpaaaW.PrintMore
set_option linter.unusedVariables false
set_option linter.unusedSimpArgs false

theorem few_any (w : World) (a : Option Addr) (n c : Nat) (l : List O3) (h : OpsAt w a n l) (hc : n ≤ c) (hn : n ≤ 9223372036854775807) :
    Calls Try.prog 14 #[.slice a n c] w fun e w' => e = .returned (.bool ((l.all fun x => decide (x.s.length ≤ 150)) && decide (n ≤ 50))) ∧ Ch (fun _ => False) w w' := by
  have hl := h.1
  have e := few_eq (l.map sO) (n + 1) (by rw [List.length_map]; omega) (by rw [List.length_map]; omega)
  have e2 : ((l.map sO).all fun c => decide (c.f2.size ≤ 150)) = l.all fun x => decide (x.s.length ≤ 150) := by
    rw [List.all_map]
    refine congrArg (fun f => l.all f) (funext fun x => ?_)
    show decide ((str x.s).size ≤ 150) = _
    rw [str_size]
  rw [e2, List.length_map, hl] at e
  have := comitialaw4_Few.calls (n + 1) a c (l.map sO) _ w (opsC h (by omega)) (by rw [List.length_map]; omega) e
  rw [List.length_map, hl] at this
  exact this.mono (fun e w' h => ⟨h.1, Ch.of_below h.2.below⟩)
theorem same_any (w : World) (a b : Option Addr) (n c d : Nat) (l : List O3) (h : OpsAt w a n l) (h2 : OpsAt w b n l) (hc : n ≤ c) (hd : n ≤ d) (hn : n ≤ 1000) :
    Calls Try.prog 21 #[.slice a n c, .slice b n d] w (True_ w) := by
  have hl := h.1
  have e := rsame_refl (l.map sO) (by rw [List.length_map]; omega) (n + 1) (by rw [List.length_map]; omega)
  have := comitiaref4_Same.calls (n + 1) a c (l.map sO) b d (l.map sO) true w (opsC h (by omega)) (by rw [List.length_map]; omega) (opsC h2 (by omega)) (by rw [List.length_map]; omega) e
  rw [List.length_map, hl] at this
  exact this.mono (fun e w' h => ⟨h.1, Ch.of_below h.2.below⟩)
theorem oB_len (l : List O3) (hs : ∀ x ∈ l, x.s.length ≤ 1000) (hn : l.length ≤ 200) : (oB l).length ≤ 1000000 := by
  have h := oP_len l l.length hs
  rw [oP_all] at h
  omega
/-- OpParse of bytes of which it is known what they say. -/
theorem dparse_is (a : Option Addr) (n c : Nat) (B : List UInt8) (w : World) (h : Sl w 1 a n c (bv B)) (hn : n ≤ 1000000) (l : List O3) (r : Int) (m : Nat) (hp : parse chkO B = (l, r)) (hm : l.length = m) :
    Calls Try.prog 12 #[.slice a n c] w fun e w' => ∃ a' c', e = .returned (.tuple #[.slice a' m c', .int .i64 r]) ∧ Own w' w.heap.size 34 3 a' m c' (es l) ∧ Ch (fun _ => False) w w' := by
  refine (dparse_any chkO chk_p a n c B w h hn).mono ?_
  unfold PPost
  rw [hp]
  rintro e w' ⟨a', c', rfl, h1, h2⟩
  simp only [hm] at h1 ⊢
  exact ⟨a', c', rfl, h1, h2⟩
theorem xparse_is (a : Option Addr) (n c : Nat) (B : List UInt8) (w : World) (h : Sl w 1 a n c (bv B)) (hn : n ≤ 1000000) (l : List O3) (r : Int) (m : Nat) (hp : parse chkO B = (l, r)) (hm : l.length = m) :
    Calls Try.prog 20 #[.slice a n c] w fun e w' => ∃ a' c', e = .returned (.tuple #[.slice a' m c', .int .i64 r]) ∧ Own w' w.heap.size 34 3 a' m c' (es l) ∧ Ch (fun _ => False) w w' := by
  refine (xparse_any chkO chk_x a n c B w h hn).mono ?_
  unfold PPost
  rw [hp]
  rintro e w' ⟨a', c', rfl, h1, h2⟩
  simp only [hm] at h1 ⊢
  exact ⟨a', c', rfl, h1, h2⟩
def K1 : O3 := ⟨1, 1, []⟩
theorem rep_in {n : Nat} {x : O3} (h : x ∈ List.replicate n K1) : x = K1 := List.eq_of_mem_replicate h
set_option maxRecDepth 100000 in
set_option maxHeartbeats 4000000 in
theorem DeltaMany_walk0 (w : World) (x0 : Int) : Calls Try.prog 5 #[.int .i64 x0] w fun e w' => e = .returned (.bool true) ∧ Below w.heap.size w w' := by
  refine Calls.mono (R := True_ w) ?_ (fun e w' h => ⟨h.1, h.2.below0⟩)
  have t0 := Int.emod_nonneg x0 (by omega : (7 : Int) ≠ 0)
  have t1 := Int.emod_lt_of_pos x0 (by omega : (0 : Int) < 7)
  obtain ⟨k, hk⟩ : ∃ k : Nat, (k : Int) = x0 % 7 := ⟨(x0 % 7).toNat, by omega⟩
  obtain ⟨m, hm⟩ : ∃ m : Nat, m = 37 + k := ⟨_, rfl⟩
  have hm1 : 37 ≤ m := by omega
  have hm2 : m ≤ 43 := by omega
  have EM := hid (show (37 : Int) + (k : Int) = ((m : Nat) : Int) by omega)
  have HK := hid hk
  have hk7 : k < 7 := by omega
  clear t0 t1 hk hm
  go_enter Try.func5, Try.ntmps5
  go_upto_region 5 with (first
    | (go_at_call 9; refine (known8_any _).mono ?_; rintro e w1 ⟨rfl, hc1⟩; have C1 := hid hc1; clear hc1)
    | (go_at_call 10; refine (within8_any x0 7 _ (by omega) (by omega)).mono ?_; rintro e w2 ⟨rfl, rfl⟩; rw [← HK.out]))
  rw [EM.out]
  go_wp2
  go_loopg [3, 4] m (fun g vo vi wr => ∃ (i : Nat) (b : Option Addr) (cb : Nat), i + g = m ∧ vo = .slice b i cb ∧ vi = .int .i64 i ∧ Hid (Own wr w.heap.size 34 3 b i cb (es (List.replicate i K1))) ∧ Hid (Ch (fun _ => False) w wr))
  case atStart => exact ⟨0, none, 0, by omega, rfl, rfl, hid (Own.nil _ _ _ _), C1⟩
  case round =>
    obtain ⟨i, b, cb, hig, rfl, rfl, O, C⟩ := hrel
    by_cases hlt : i < m
    · have hlti : (i : Int) < m := by omega
      have m1 : i + 1 ≤ maxLen := by unfold maxLen; omega
      have m2 : (i + 1) * 32 ≤ 140737488355328 := by omega
      go_wp2_with (at_builtin; refine wpList_app rfl _ _ _ _ rfl w.heap.size 34 3 32 _ et_comp b i cb (es (List.replicate i K1)) rfl (O.out.f ((Ch.refl _ wr).alloc _)) _ 1 (e3 K1) rfl (src3 wr K1) m1 m2 (by have := C.out.size; simp; omega) ?_; intro a8 c8 w8 hO hS hC hN; have O8 := hid hO; have C8 := hid hC; clear hO hS hC hN)
      go_roundg (m - (i + 1))
      case measure => omega
      case rel =>
        refine ⟨i + 1, a8, c8, by omega, rfl, by go_num, hid ?_, hid (Ch.app_own (C.out.alloc _) (O.out.f ((Ch.refl _ wr).alloc _)) (Nat.le_refl _) C8.out)⟩
        rw [List.replicate_succ', es_app]
        have := O8.out
        simpa [es] using this
    · obtain rfl : i = m := by omega
      have hlti : ¬ (i : Int) < i := by omega
      obtain ⟨l, hl⟩ : ∃ l, l = List.replicate i K1 := ⟨_, rfl⟩
      rw [← hl] at O
      have HL := hid (show l.length = i by rw [hl]; simp)
      have HX := hid (show ∀ x ∈ l, x = K1 from fun x hx => rep_in (by rw [← hl]; exact hx))
      have HS := hid (show ∀ x ∈ l, x.s.length ≤ 1000 from fun x hx => by rw [HX.out x hx]; simp [K1])
      have OL := hid (oB_len l HS.out (by rw [HL.out]; omega))
      have hcb := O.out.sl.2.1
      clear hl hlt
      by_cases h40 : 40 < i
      · have h40i : (40 : Int) < i := by omega
        have PM := hid (parse_many l (by rw [HL.out]; exact h40) (by rw [HL.out]; omega))
        go_wp2_with (first
          | (go_at_call 13; refine (xbytes_any b i cb l wr (OpsAt.own HL.out O.out) (by omega) hcb HS.out).mono ?_; rintro e3 w3 ⟨a3, c3, rfl, ho3, hc3⟩; have O3' := hid ho3; have C3 := hid (C.out.f hc3); clear ho3 hc3)
          | (go_at_call 12; refine (dparse_is a3 _ c3 (oB l) w3 O3'.out.sl OL.out [] 4 0 PM.out rfl).mono ?_; rintro e4 w4 ⟨a4, c4, rfl, ho4, hc4⟩; have C4 := hid (C3.out.f hc4); clear ho4 hc4))
        go_ret
        exact ⟨by simp, C4.out⟩
      · have h40i : ¬ (40 : Int) < i := by omega
        have PB := hid (parse_back l (by rw [HL.out]; omega) (fun x hx => by rw [HX.out x hx]; exact ⟨by decide, by decide, ⟨by decide, by decide⟩, by decide⟩) (chkO_ok l (by rw [HL.out]; omega) (fun x hx => by rw [HX.out x hx]; decide)))
        have FW := hid (show ((l.all fun x => decide (x.s.length ≤ 150)) && decide (i ≤ 50)) = true by
          rw [Bool.and_eq_true, List.all_eq_true, decide_eq_true_iff]
          exact ⟨fun x hx => by rw [HX.out x hx]; decide, by omega⟩)
        go_wp2_with (first
          | (go_at_call 13; refine (xbytes_any b i cb l wr (OpsAt.own HL.out O.out) (by omega) hcb HS.out).mono ?_; rintro e3 w3 ⟨a3, c3, rfl, ho3, hc3⟩; have O3' := hid ho3; have C3 := hid (C.out.f hc3); clear ho3 hc3)
          | (go_at_call 12; refine (dparse_is a3 _ c3 (oB l) w3 O3'.out.sl OL.out l 0 i PB.out HL.out).mono ?_; rintro e4 w4 ⟨a4, c4, rfl, ho4, hc4⟩; have O4 := hid ho4; have C4 := hid (C3.out.f hc4); have hc4' := ho4.sl.2.1; clear ho4 hc4)
          | (go_at_call 14; refine (few_any w4 a4 i c4 l (OpsAt.own HL.out O4.out) hc4' (by omega)).mono ?_; rw [FW.out]; rintro e5 w5 ⟨rfl, hc5⟩; have C5 := hid (C4.out.f hc5); clear hc5))
        go_ret
        exact ⟨by simp, C5.out⟩
end Cd
set_option linter.unusedVariables false
open Go.RowKit Go.Cx in
theorem DeltaMany_walk (w : World) (x0 : Int) (h0 : Go.Cx.I64 x0) : Calls Try.prog 5 #[.int .i64 x0] w fun e w' => e = .returned (.bool true) ∧ Below w.heap.size w w' := Cd.DeltaMany_walk0 w x0
end Go.Proofs.Ytpcgamgjgfdpaaa

/- The document's OpBytes: walked. -/
import Derived.Test.YtpcgamgjgfdpaaaL8Q
namespace Go.Proofs.Ytpcgamgjgfdpaaa
namespace Cd
open Go.RowKit Go.Cx
set_option linter.unusedVariables false
set_option linter.unusedSimpArgs false
attribute [local go_sem high] max_ints min_ints

set_option maxRecDepth 100000 in
set_option maxHeartbeats 4000000 in
theorem xbytes_any (A : Option Addr) (n c : Nat) (l : List O3) (w : World) (h : OpsAt w A n l) (hn : n ≤ 200) (hc : n ≤ c) (hs : ∀ x ∈ l, x.s.length ≤ 1000) :
    Calls Try.prog 13 #[.slice A n c] w (WPost w l) := by
  have H := hid h
  have HS := hid hs
  have HL := hid h.1
  have hcc : (n : Int) ≤ c := by omega
  clear h hs
  have e0 : [u8of (n : Nat)] = oP l 0 := by unfold oP; rw [HL.out]; simp
  have E0 := hid e0
  clear e0
  have hbb : ∀ w0 : World, Calls Try.prog 36 #[.slice none 0 0, .int .i64 (n : Nat)] w0 (fun e w' => ∃ a' c', e = .returned (.slice a' 1 c') ∧ Own w' w0.heap.size 5 1 a' 1 c' (bv (oP l 0)) ∧ Ch (fun _ => False) w0 w') := by
    intro w0
    refine (rbyte_any w0.heap.size none 0 0 [] (n : Nat) w0 (Own.nil _ _ _ _) (by omega) (Nat.le_refl _)).mono ?_
    rintro e w' ⟨a', c', rfl, hA⟩
    have h := hA.own
    rw [List.nil_append, E0.out] at h
    exact ⟨a', c', rfl, h, Ch.app_own (Ch.refl _ _) hA.old (Nat.le_refl _) hA.ch⟩
  have BB := hid hbb
  clear hbb
  go_enter Try.func13, Try.ntmps13
  go_upto_region 2 with (go_at_call 36; refine (BB.out _).mono ?_; rintro e w1 ⟨a1, c1, rfl, ho1, hc1⟩; have O1 := hid ho1; have C1 := hid hc1; clear ho1 hc1)
  go_wp2
  go_loopg [3, 4] n (fun g vb vk wr => ∃ (k : Nat) (b : Option Addr) (m cb : Nat), k + g = n ∧ vb = .slice b m cb ∧ vk = .int .i64 k ∧ Hid (m = (oP l k).length) ∧ Hid (Own wr w.heap.size 5 1 b m cb (bv (oP l k))) ∧ Hid (Ch (fun _ => False) w wr))
  case atStart => exact ⟨0, a1, 1, c1, by omega, rfl, rfl, hid (by rw [← E0.out]; rfl), O1, C1⟩
  case round =>
    obtain ⟨k, b, m, cb, hkg, rfl, rfl, HM, HO, HC⟩ := hrel
    have hm2 := oP_len l k HS.out
    rw [← HM.out] at hm2
    have i0 : (0 : Int) ≤ k := by omega
    by_cases hlt : k < n
    · obtain ⟨x, hx⟩ : ∃ x, l[k]? = some x := ⟨_, List.getElem?_eq_getElem (by rw [HL.out]; exact hlt)⟩
      obtain ⟨B, o, rfl⟩ := H.out.spot (by omega)
      have hlti : (k : Int) < n := by omega
      have HX := hid hx
      have hxs := HS.out x (List.mem_of_getElem? hx)
      clear hx
      have FC := hid (fun (w1 : World) (hc1 : Ch (fun _ => False) w w1) => (H.out.below hc1).at_ HX.out)
      obtain ⟨p1, p2, p3⟩ := FC.out _ HC.out.drew
      have hk2 : k * 1011 ≤ 200 * 1011 := by omega
      have M1 : m ≤ 1000000 := by omega
      have M2 : m + 1 ≤ 1000000 := by omega
      have M3 : m + 1 + 8 ≤ 1000000 := by omega
      have M4 : x.s.length ≤ 1000000 := by omega
      have LEN := hid (show (oP l (k + 1)).length = m + 1 + 8 + 2 + min x.s.length 65535 by rw [oP_succ HX.out]; simp only [List.length_append, List.length_singleton, le8_length, txt_len, ← HM.out]; omega)
      have SUC := hid (oP_succ HX.out)
      have SZ := hid HC.out.size
      clear hm2 hxs hk2
      go_upto_region 5 with (fail)
      go_region_with (first
        | (go_at_call 36; refine (rbyte_any w.heap.size b m cb (oP l k) x.k wr.drew (show Own wr.drew w.heap.size 5 1 b m cb (bv (oP l k)) from HO.out) M1 SZ.out).mono ?_; rintro e w1 ⟨a1, c1, rfl, hA⟩; have O1 := hid hA.own; have C1 := hid (Ch.app_own HC.out.drew (show Own wr.drew w.heap.size 5 1 b m cb (bv (oP l k)) from HO.out) (Nat.le_refl _) hA.ch); obtain ⟨r1, r2, r3⟩ := FC.out _ C1.out; clear hA)
        | (go_at_call 38; refine (rint_any w.heap.size a1 (m + 1) c1 (oP l k ++ [u8of x.k]) x.n w1 O1.out M2 C1.out.size).mono ?_; rintro e w2 ⟨a2, c2, rfl, hA⟩; have O2 := hid hA.own; have C2 := hid (Ch.app_own C1.out O1.out (Nat.le_refl _) hA.ch); obtain ⟨s1, s2, s3⟩ := FC.out _ C2.out; clear hA)
        | (go_at_call 37; refine (rtext_any w.heap.size a2 (m + 1 + 8) c2 (oP l k ++ [u8of x.k] ++ le8 x.n) x.s w2 O2.out M3 M4 C2.out.size).mono ?_; rintro e w3 ⟨a3, c3, rfl, hA⟩; have C3 := hid (Ch.app_own C2.out O2.out (Nat.le_refl _) hA.ch); have ho3 := hA.own; rw [← SUC.out] at ho3; have O3 := hid ho3; clear hA ho3))
      all_goals (
        go_wp2
        go_roundg (n - (k + 1))
        case measure => omega
        case rel => exact ⟨k + 1, a3, _, c3, by omega, rfl, by go_num, hid LEN.out.symm, O3, C3⟩)
    · have hlti : ¬ (k : Int) < n := by omega
      obtain rfl : k = n := by omega
      go_wp2
      go_ret
      have e := oP_all l
      rw [HL.out] at e
      have ho := HO.out
      have hm := HM.out
      rw [e] at ho hm
      subst hm
      exact ⟨_, _, rfl, ho, HC.out⟩
end Cd
end Go.Proofs.Ytpcgamgjgfdpaaa

/- delta.OpParse: walked. -/
import Derived.Test.YtpcgamgjgfdpaaaL8Q
namespace Go.Proofs.Ytpcgamgjgfdpaaa
namespace Cd
open Go.RowKit Go.Cx
set_option linter.unusedVariables false
set_option linter.unusedSimpArgs false

/-! ### Read -/
def rdC (l : List UInt8) (e : Int) : O3 × List UInt8 × Int :=
  (⟨(rdB l e).1, (rdI (rdB l e).2.1 (rdB l e).2.2).1, (rdT (rdI (rdB l e).2.1 (rdB l e).2.2).2.1 (rdI (rdB l e).2.1 (rdB l e).2.2).2.2).1⟩, (rdT (rdI (rdB l e).2.1 (rdB l e).2.2).2.1 (rdI (rdB l e).2.1 (rdB l e).2.2).2.2).2)
def rdN : Nat → List UInt8 → Int → List O3 × List UInt8 × Int
  | 0, l, e => ([], l, e)
  | m + 1, l, e => ((rdC l e).1 :: (rdN m (rdC l e).2.1 (rdC l e).2.2).1, (rdN m (rdC l e).2.1 (rdC l e).2.2).2)
def fin (chk : List O3 → Int) (r : List O3 × List UInt8 × Int) : List O3 × Int := if endOf r.2.1 r.2.2 = 0 then (if chk r.1 = 0 then (r.1, 0) else ([], chk r.1)) else ([], endOf r.2.1 r.2.2)
def parse (chk : List O3 → Int) (L : List UInt8) : List O3 × Int := if 40 < (rdB L 0).1 then ([], 4) else fin chk (rdN (rdB L 0).1.toNat (rdB L 0).2.1 (rdB L 0).2.2)
theorem rdB_num (L : List UInt8) : ∃ N : Nat, (rdB L 0).1 = (N : Int) ∧ N ≤ 255 ∧ (40 < N → (rdB L 0).2.2 = 0) := by
  unfold rdB
  rw [if_pos rfl]
  cases L with
  | nil => exact ⟨0, rfl, by omega, fun h => by omega⟩
  | cons b t => exact ⟨b.toNat, rfl, by have := b.toNat_lt; omega, fun _ => rfl⟩
theorem rdN_bad : ∀ (m : Nat) (l : List UInt8) (e : Int), e ≠ 0 → (rdN m l e).2.2 = e
  | 0, l, e, h => rfl
  | m + 1, l, e, h => by
    have e1 : (rdC l e).2 = (l, e) := by
      unfold rdC rdT rdI rdB
      simp only [if_neg h]
    unfold rdN
    rw [e1]
    exact rdN_bad m l e h
theorem Rd.lt {w : World} {p : Nat} {l : List UInt8} {e : Int} (h : Rd w p l e) : p < w.heap.size := by obtain ⟨_, _, _, h, _⟩ := h; exact lt_of_block h
theorem src3 (w : World) (x : O3) : Src Try.prog 3 28 (.slice (some ⟨w.heap.size, 0, none⟩) 1 1) 1 (e3 x) (w.alloc (.cells #[.int .i64 x.k, .int .i64 x.n, .string (str x.s)] 34)) :=
  Src.ofSlice _ Try.underlying28 _ 1 1 (e3 x) rfl (fun j u hu => by
    rw [add_eq, Nat.zero_add, cell_blk (alloc_blk_new _ rfl) j]
    simpa [e3] using hu) (by intro u hu; simp only [e3, List.mem_cons, List.not_mem_nil, or_false] at hu; rcases hu with rfl | rfl | rfl <;> rfl)
def PPost (w : World) (r : List O3 × Int) (e : Ending) (w' : World) : Prop := ∃ a c, e = .returned (.tuple #[.slice a r.1.length c, .int .i64 r.2]) ∧ Own w' w.heap.size 34 3 a r.1.length c (es r.1) ∧ Ch (fun _ => False) w w'
def Chk (f : Nat) (chk : List O3 → Int) : Prop := ∀ (w : World) (a : Option Addr) (n c : Nat) (l : List O3), OpsAt w a n l → n ≤ c → n ≤ 300 → Calls Try.prog f #[.slice a n c] w fun e w' => e = .returned (.int .i64 (chk l)) ∧ Ch (fun _ => False) w w'
set_option maxRecDepth 100000 in
set_option maxHeartbeats 400000 in
theorem clone3_any (base : Nat) (a : Option Addr) (n c : Nat) (l : List O3) (w : World) (h : Own w base 34 3 a n c (es l)) (hn : n ≤ 1000) :
    Calls Try.prog 35 #[.slice a n c] w fun e w' => ∃ a' c', e = .returned (.slice a' n c') ∧ Own w' w.heap.size 34 3 a' n c' (es l) ∧ Ch (fun _ => False) w w' := by
  have q : ∀ (w : World) (a : Option Addr) (n c n' c' : Nat), (binOp .eql 28 (.slice a n c) (.slice none n' c')).run Try.prog w = .ok (.bool a.isNone) w := fun w a n c n' c' => Lib.run_eql_slice_nil w _ _ a n c n' c' Try.underlying28
  cases a with
  | none =>
    obtain ⟨rfl, rfl, hx⟩ := h.sl.none_zero
    rw [hx]
    clear h hx
    go_enter Try.func35, Try.ntmps35
    go_wp2
    go_ret
    exact ⟨none, 0, rfl, Own.nil _ _ _ _, Ch.refl _ _⟩
  | some b =>
    have H := hid h.sl
    have H1 := hid (es_one l)
    clear h
    go_enter Try.func35, Try.ntmps35
    go_wp2_with (at_builtin; refine wpList_app rfl _ _ _ _ rfl w.heap.size 34 3 32 _ et_comp _ 0 _ [] rfl (World.ownsRow_made w #[] 0 (Nat.le_refl _) (Nat.zero_le _) rfl) _ n (es l) rfl ((H.out.ch ((Ch.refl (fun _ => False) w).alloc _) (fun _ _ => id)).src Try.underlying28 H1.out) (by unfold maxLen; omega) (by omega) (by simp) ?_; intro a' c' w1 hO hS hC hN; rw [List.nil_append, Nat.zero_add] at hO; have HO := hid hO; have HC := hid hC.app_new; clear hO hS hC hN)
    go_ret
    exact ⟨_, _, rfl, HO.out, HC.out⟩
set_option maxRecDepth 100000 in
set_option maxHeartbeats 4000000 in
theorem dparse_any (chk : List O3 → Int) (hchk : Chk 28 chk) (a : Option Addr) (n c : Nat) (B : List UInt8) (w : World) (h : Sl w 1 a n c (bv B)) (hn : n ≤ 1000000) :
    Calls Try.prog 12 #[.slice a n c] w (PPost w (parse chk B)) := by
  have H := hid h
  have HK := hid hchk
  clear h hchk
  obtain ⟨N, hN, hN2, hN3⟩ := rdB_num B
  have NN := hid hN
  clear hN
  by_cases h40 : 40 < N
  · have h40i : (40 : Int) < N := by omega
    have E0 := hid (hN3 h40)
    have PR := hid (show parse chk B = ([], 4) by unfold parse; rw [if_pos (by rw [NN.out]; exact h40i)])
    clear hN3
    go_enter Try.func12, Try.ntmps12
    go_upto_region 8 with (first
      | (go_at_call 29; refine (new1_any a n c B _ H.out hn).mono ?_; rintro e w1 ⟨p, rfl, hr, hp, hc⟩; have R1 := hid hr; have C1 := hid hc; have PP := hid hp; clear hr hp hc)
      | (go_at_call 30; refine (pbyte_any p B 0 _ R1.out).mono ?_; rw [NN.out, E0.out]; rintro e w2 ⟨rfl, hr, hc⟩; have R2 := hid hr; have C2 := hid (C1.out.far1 hc PP.out); clear hr hc)
      | (go_at_call 33; refine (fail_any p _ 0 4 _ R2.out).mono ?_; rintro e w3 ⟨rfl, hr, hc⟩; have R3 := hid (show Rd w3 p (rdB B 0).2.1 4 from hr); have C3 := hid (C2.out.far1 hc PP.out); clear hr hc))
    go_wp2
    go_loopg [9, 26] 0 (fun g vo vi wr => g = 0 ∧ vo = .slice none 0 0 ∧ vi = .int .i64 0 ∧ wr = w3)
    case atStart => exact ⟨rfl, rfl, rfl, rfl⟩
    case round =>
      obtain ⟨rfl, rfl, rfl, rfl⟩ := hrel
      go_wp2_with (go_at_call 34; refine (end_any p _ 4 _ R3.out).mono ?_; rw [endOf_ne (by decide)]; rintro e w4 ⟨rfl, rfl⟩)
      go_ret2
      unfold PPost
      rw [PR.out]
      exact ⟨none, 0, rfl, Own.nil _ _ _ _, C3.out⟩
  · have h40i : ¬ (40 : Int) < N := by omega
    obtain ⟨l1, e1, hb⟩ : ∃ l1 e1, (rdB B 0).2 = (l1, e1) := ⟨_, _, rfl⟩
    have HB := hid hb
    obtain ⟨R, hR⟩ : ∃ R, R = rdN N l1 e1 := ⟨_, rfl⟩
    have PR := hid (show parse chk B = fin chk R by unfold parse; rw [if_neg (by rw [NN.out]; exact h40i), NN.out, hb, hR]; rfl)
    have RR := hid hR
    clear hN3 hb hR
    go_enter Try.func12, Try.ntmps12
    go_upto_region 8 with (first
      | (go_at_call 29; refine (new1_any a n c B _ H.out hn).mono ?_; rintro e w1 ⟨p, rfl, hr, hp, hc⟩; have R1 := hid hr; have C1 := hid hc; have PP := hid hp; clear hr hp hc)
      | (go_at_call 30; refine (pbyte_any p B 0 _ R1.out).mono ?_; rw [NN.out, HB.out]; rintro e w2 ⟨rfl, hr, hc⟩; have R2 := hid hr; have C2 := hid (C1.out.far1 hc PP.out); have LT := hid (hr.lt); clear hr hc))
    go_wp2
    go_loopg [9, 26] N (fun g vo vi wr => ∃ (i : Nat) (b : Option Addr) (cb : Nat) (o : List O3) (l : List UInt8) (e : Int), i + g = N ∧ vo = .slice b i cb ∧ vi = .int .i64 i ∧ o.length = i ∧ Hid (Own wr w.heap.size 34 3 b i cb (es o)) ∧ (∀ x, b = some x → p < x.block) ∧ Hid (Rd wr p l e) ∧
      Hid (R = (o ++ (rdN g l e).1, (rdN g l e).2)) ∧ Hid (Ch (fun _ => False) w wr) ∧ Hid (p < wr.heap.size))
    case atStart => exact ⟨0, none, 0, [], l1, e1, by omega, rfl, rfl, rfl, hid (Own.nil _ _ _ _), (fun x hx => by cases hx), R2, hid (by rw [RR.out]; simp), C2, LT⟩
    case round =>
      obtain ⟨i, b, cb, o, l, e, hig, rfl, rfl, ho, O, hne, RD, RE, C, PL⟩ := hrel
      have NE := hid hne
      have HO := hid ho
      clear hne ho
      by_cases hlt : i < N
      · obtain ⟨g, rfl⟩ : ∃ g, gk = g + 1 := ⟨gk - 1, by omega⟩
        have hlti : (i : Int) < N := by omega
        have m1 : i + 1 ≤ maxLen := by unfold maxLen; omega
        have m2 : (i + 1) * 32 ≤ 140737488355328 := by omega
        obtain ⟨z, hz⟩ : ∃ z, z = rdC l e := ⟨_, rfl⟩
        have HZ := hid hz
        have RE2 := hid (show R = (o ++ [z.1] ++ (rdN g z.2.1 z.2.2).1, (rdN g z.2.1 z.2.2).2) by rw [RE.out, hz, List.append_assoc]; rfl)
        clear hz
        go_wp2_with (first
          | (go_at_call 30; refine (pbyte_any p l e wr RD.out).mono ?_; rintro e5 w5 ⟨rfl, hr, hc⟩; have R5 := hid hr; have C5 := hid hc; clear hr hc)
          | (go_at_call 31; refine (pint_any p _ _ w5 R5.out).mono ?_; rintro e6 w6 ⟨rfl, hr, hc⟩; have R6 := hid hr; have C6 := hid (C5.out.trans hc (fun _ _ h => h)); clear hr hc)
          | (go_at_call 32; refine (ptext_any p _ _ w6 R6.out).mono ?_; rintro e7 w7 ⟨rfl, hr, hc⟩; have R7 := hid hr; have C7 := hid (C6.out.trans hc (fun _ _ h => h)); clear hr hc)
          | (at_builtin; refine wpList_app rfl _ _ _ _ rfl w.heap.size 34 3 32 _ et_comp b i cb (es o) rfl ((O.out.ch C7.out (fun x hx h => Nat.ne_of_gt (NE.out x hx) h)).f ((Ch.refl _ w7).alloc _)) _ 1 (e3 z.1) rfl (by rw [HZ.out]; exact src3 w7 _) m1 m2 (by have := C.out.size; have := C7.out.size; simp; omega) ?_; intro a8 c8 w8 hO hS hC hN; have O8 := hid hO; have C8 := hid hC; have N8 := hid hN; clear hO hS hC hN))
        go_roundg g
        case measure => omega
        case rel =>
          refine ⟨i + 1, a8, c8, o ++ [z.1], z.2.1, z.2.2, by omega, rfl, by go_num, by rw [List.length_append, HO.out]; rfl, ?_, ?_, ?_, RE2, ?_, ?_⟩
          · refine hid ?_
            rw [es_app]
            have := O8.out
            simpa [es] using this
          · intro x hx
            rcases N8.out with ⟨e1, _⟩ | hn8
            · exact NE.out x (by rw [← e1]; exact hx)
            · have h1 := hn8 x hx
              have h2 := PL.out
              have h3 := C7.out.size
              simp at h1
              omega
          · refine hid ?_
            rw [HZ.out]
            exact (R7.out.f ((Ch.refl (fun _ => False) w7).alloc _)).past C8.out (fun k hk ⟨x, hx, he⟩ => by have := NE.out x hx; omega)
          · exact hid (Ch.app_own (((C.out.trans C7.out (fun i hi h => by have := PP.out; omega)).alloc _)) ((O.out.ch C7.out (fun x hx h => Nat.ne_of_gt (NE.out x hx) h)).f ((Ch.refl _ w7).alloc _)) (Nat.le_refl _) C8.out)
          · refine hid ?_
            have h1 := C8.out.size
            have h2 := C7.out.size
            have h3 := PL.out
            simp at h1
            omega
      · obtain rfl : i = N := by omega
        obtain rfl : gk = 0 := by omega
        have hlti : ¬ (i : Int) < i := by omega
        have RE2 := hid (show R = (o, l, e) by rw [RE.out]; simp [rdN])
        obtain ⟨E, hE⟩ : ∃ E, E = endOf l e := ⟨_, rfl⟩
        have HE := hid hE
        obtain ⟨K, hK⟩ : ∃ K, K = chk o := ⟨_, rfl⟩
        have HKK := hid hK
        have N3 : i ≤ 300 := by omega
        clear hE hK hlt
        by_cases he : E = 0
        · by_cases hk : K = 0
          · have PF := hid (show parse chk B = (o, 0) by rw [PR.out, RE2.out]; unfold fin; rw [if_pos (HE.out.symm.trans he), if_pos (HKK.out.symm.trans hk)])
            subst he
            subst hk
            go_wp2_with (first
              | (go_at_call 34; refine (end_any p l e wr RD.out).mono ?_; rw [← HE.out]; rintro e7 w7 ⟨rfl, rfl⟩; have CE := C)
              | (go_at_call 28; refine (HK.out wr b i cb o (OpsAt.own HO.out O.out) O.out.sl.2.1 N3).mono ?_; rw [← HKK.out]; rintro e8 w8 ⟨rfl, hc8⟩; have C8 := hid (C.out.f hc8); have O8 := hid (O.out.f hc8); clear hc8)
              | (go_at_call 35; refine (clone3_any w.heap.size b i cb o w8 O8.out (by omega)).mono ?_; rintro e9 w9 ⟨a9, c9, rfl, ho9, hc9⟩; have O9 := hid (ho9.base_le C8.out.size); have C9 := hid (C8.out.f hc9); clear ho9 hc9))
            go_ret2
            unfold PPost
            rw [PF.out]
            exact ⟨a9, c9, by rw [show (o, (0 : Int)).1.length = i from HO.out]; rfl, by rw [show (o, (0 : Int)).1.length = i from HO.out]; exact O9.out, C9.out⟩
          · have PF := hid (show parse chk B = ([], K) by rw [PR.out, RE2.out]; unfold fin; rw [if_pos (HE.out.symm.trans he), if_neg (by show ¬ chk o = 0; rw [← HKK.out]; exact hk), ← HKK.out])
            have hkb : (K == 0) = false := beq_eq_false_iff_ne.2 hk
            subst he
            clear hk
            go_wp2_with (first
              | (go_at_call 34; refine (end_any p l e wr RD.out).mono ?_; rw [← HE.out]; rintro e7 w7 ⟨rfl, rfl⟩; have CE := C)
              | (go_at_call 28; refine (HK.out wr b i cb o (OpsAt.own HO.out O.out) O.out.sl.2.1 N3).mono ?_; rw [← HKK.out]; rintro e8 w8 ⟨rfl, hc8⟩; have C8 := hid (C.out.f hc8); have O8 := hid (O.out.f hc8); clear hc8))
            go_ret2
            unfold PPost
            rw [PF.out]
            exact ⟨none, 0, rfl, Own.nil _ _ _ _, C8.out⟩
        · have PF := hid (show parse chk B = ([], E) by rw [PR.out, RE2.out]; unfold fin; rw [if_neg (by show ¬ endOf l e = 0; rw [← HE.out]; exact he), ← HE.out])
          have heb : (E == 0) = false := beq_eq_false_iff_ne.2 he
          clear he
          go_wp2_with ((go_at_call 34; refine (end_any p l e wr RD.out).mono ?_; rw [← HE.out]; rintro e7 w7 ⟨rfl, rfl⟩; have CE := C))
          go_ret2
          unfold PPost
          rw [PF.out]
          exact ⟨none, 0, rfl, Own.nil _ _ _ _, CE.out⟩
end Cd
end Go.Proofs.Ytpcgamgjgfdpaaa

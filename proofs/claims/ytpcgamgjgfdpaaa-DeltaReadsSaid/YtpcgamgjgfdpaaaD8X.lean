/- Chapter 8: the document's Bytes, walked. -/
import Derived.Test.YtpcgamgjgfdpaaaD8
import Derived.Test.YtpcgamgjgfdpaaaL8S
namespace Go.Proofs.Ytpcgamgjgfdpaaa
namespace Cd
open Go.RowKit Go.Cx
set_option linter.unusedVariables false
set_option linter.unusedSimpArgs false

/-- What is appended to what is one's own, since world w1. -/
def FPost (w1 : World) (m : Nat) (l : List UInt8) (e : Ending) (w' : World) : Prop := ∃ a c, e = .returned (.slice a m c) ∧ Own w' w1.heap.size 5 1 a m c (bv l) ∧ Ch (fun _ => False) w1 w'
theorem fpost {w1 w w' : World} {a : Option Addr} {n c : Nat} {l news : List UInt8} {m : Nat} {e : Ending} (C : Ch (fun _ => False) w1 w) (h : AppPost w w1.heap.size a n c l news m e w') : FPost w1 m (l ++ news) e w' := by
  obtain ⟨a', c', rfl, hA⟩ := h
  exact ⟨a', c', rfl, hA.own, Ch.app_own C hA.old (Nat.le_refl _) hA.ch⟩
theorem rint_f (w1 w : World) (C : Ch (fun _ => False) w1 w) (a : Option Addr) (n c : Nat) (l : List UInt8) (x : Int) (h : Own w w1.heap.size 5 1 a n c (bv l)) (hn : n ≤ 1000000) :
    Calls Try.prog 38 #[.slice a n c, .int .i64 x] w (FPost w1 (n + 8) (l ++ le8 x)) := (rint_any w1.heap.size a n c l x w h hn C.size).mono fun _ _ h => fpost C h
theorem rbyte_f (w1 w : World) (C : Ch (fun _ => False) w1 w) (a : Option Addr) (n c : Nat) (l : List UInt8) (x : Int) (h : Own w w1.heap.size 5 1 a n c (bv l)) (hn : n ≤ 1000000) :
    Calls Try.prog 36 #[.slice a n c, .int .i64 x] w (FPost w1 (n + 1) (l ++ [u8of x])) := (rbyte_any w1.heap.size a n c l x w h hn C.size).mono fun _ _ h => fpost C h
theorem rtext_f (w1 w : World) (C : Ch (fun _ => False) w1 w) (a : Option Addr) (n c : Nat) (l s : List UInt8) (h : Own w w1.heap.size 5 1 a n c (bv l)) (hn : n ≤ 1000000) (hs : s.length ≤ 1000000) :
    Calls Try.prog 37 #[.slice a n c, .string (str s)] w (FPost w1 (n + 2 + min s.length 65535) (l ++ txt s)) := (rtext_any w1.heap.size a n c l s w h hn hs C.size).mono fun _ _ h => fpost C h
set_option maxRecDepth 100000 in
set_option maxHeartbeats 8000000 in
theorem xdelta_bytes (D U I V : Int) (H : List UInt8) (K : Int) (a : Option Addr) (n c : Nat) (A B : Int) (L : List O3) (w : World) (hH : H.length = 32) (h : OpsAt w a n L) (hn : n ≤ 200) (hc : n ≤ c) (hs : ∀ x ∈ L, x.s.length ≤ 1000) :
    Calls Try.prog 24 #[.agg (D40 D U I V H K (.slice a n c) A B)] w (Fresh w 5 1 (dB D U I V H K L A B).length (bv (dB D U I V H K L A B))) := by
  have HO := hid h
  have HS := hid hs
  have OL : (oB L).length ≤ 1000000 := by
    have h2 := oP_len L L.length hs
    rw [oP_all, h.1] at h2
    omega
  have N1 : 65 + 2 + min (oB L).length 65535 ≤ 1000000 := by omega
  have N2 : 65 + 2 + min (oB L).length 65535 + 8 ≤ 1000000 := by omega
  have K1 := hid True.intro
  have K2 := hid True.intro
  have K3 := hid True.intro
  have W0 := hid (DAt.new (w := w) (D := D) (U := U) (I := I) (V := V) (K := K) (o := .slice a n c) (A := A) (B := B) hH)
  clear h hs
  go_enter Try.func24, Try.ntmps24
  go_upto_region 0 with (fail)
  go_cut [1, 2] (fun v1 v2 wc => ∃ g0 : Nat, v1 = .pointer (some ⟨g0, 0, none⟩) ∧ v2 = .slice none 0 0 ∧ Hid (DAt wc g0 D U I V H K (.slice a n c) A B) ∧ Hid (Ch (fun _ => False) w wc) ∧ g0 < wc.heap.size)
  case first =>
    go_wp2
    go_meet
    case rel => exact ⟨w.heap.size, rfl, rfl, W0, hid ((Ch.refl _ _).alloc _), by simp⟩
  case rest =>
    obtain ⟨g0, rfl, rfl, W, C0, g0l⟩ := hcut
    clear W0
    have HOc := hid (fun (w' : World) (h' : Ch (fun _ => False) wc w') => HO.out.below (C0.out.f h'))
    have hxz : 8 + 8 + 8 + 8 + 32 ≤ maxLen := by decide
    have hxz2 : (8 + 8 + 8 + 8 + 32) * 1 ≤ 140737488355328 := by decide
    go_upto_region 1 with (fail)
    go_region_held3 (fun w' => w'.cell? ⟨g0, 0, none⟩ = some (.int .i64 D) ∧ w'.cell? ⟨g0, 1, none⟩ = some (.int .i64 U)) (first | exact (fun h : DAt _ g0 D U I V H K _ A B => ⟨h.c0, h.c1⟩) (W.out.f C3.out) | exact (fun h : DAt _ g0 D U I V H K _ A B => ⟨h.c0, h.c1⟩) (W.out.f C2.out) | exact (fun h : DAt _ g0 D U I V H K _ A B => ⟨h.c0, h.c1⟩) (W.out.f (Ch.refl _ _).drew)) (first
      | (go_at_call 38; have q_ := K1; refine (rint_f wc _ (Ch.refl _ _).drew none 0 0 [] D (Own.nil _ _ _ _) (by decide)).mono ?_; rintro e w2 ⟨a2, c2, rfl, ho, hc⟩; have O2 := hid ho; have C2 := hid hc; clear ho hc K1 q_)
      | (go_at_call 38; refine (rint_f wc _ C2.out a2 _ c2 _ U O2.out (by decide)).mono ?_; rintro e w3 ⟨a3, c3, rfl, ho, hc⟩; have O3 := hid ho; have C3 := hid hc; clear ho hc O2))
    go_upto_region 2 with (fail)
    go_region_held3 (fun w' => w'.cell? ⟨g0, 2, none⟩ = some (.int .i64 I) ∧ w'.cell? ⟨g0, 3, none⟩ = some (.int .i64 V)) (first | exact (fun h : DAt _ g0 D U I V H K _ A B => ⟨h.c2, h.c3⟩) (W.out.f C5.out) | exact (fun h : DAt _ g0 D U I V H K _ A B => ⟨h.c2, h.c3⟩) (W.out.f C4.out) | exact (fun h : DAt _ g0 D U I V H K _ A B => ⟨h.c2, h.c3⟩) (W.out.f C3.out.drew)) (first
      | (go_at_call 38; have q_ := K2; refine (rint_f wc _ C3.out.drew a3 _ c3 _ I (O3.out.f (Ch.refl _ _).drew) (by decide)).mono ?_; rintro e w4 ⟨a4, c4, rfl, ho, hc⟩; have O4 := hid ho; have C4 := hid hc; clear ho hc K2 q_ O3)
      | (go_at_call 38; refine (rint_f wc _ C4.out a4 _ c4 _ V O4.out (by decide)).mono ?_; rintro e w5 ⟨a5, c5, rfl, ho, hc⟩; have O5 := hid ho; have C5 := hid hc; clear ho hc O4))
    go_upto_region 4 with (at_builtin; refine wpList_app rfl _ _ _ _ rfl wc.heap.size 5 1 1 _ et_u8 a5 (8 + 8 + 8 + 8) c5 _ rfl O5.out _ 32 (bv H) rfl ((W.out.f C5.out).hash.src Try.underlying40 (bv_one H)) hxz hxz2 C5.out.size ?_; intro a6 c6 w6 hO hS hC hN; rw [← bv_append] at hO; have O6 := hid hO; have C6 := hid (Ch.app_own C5.out O5.out (Nat.le_refl _) hC); clear hO hS hC hN)
    refine wp_region_held_drew (S := (fun w' => w'.cell? ⟨g0, 36, none⟩ = some (.int .i64 K) ∧ w'.cell? ⟨g0, 37, none⟩ = some (.slice a n c))) (by kernel_rfl) ?_ (fun hHeld => ?_)
    · exact (fun h : DAt _ g0 D U I V H K _ A B => ⟨h.c36, h.c37⟩) (W.out.f C6.out.drew)
    refine wpAnyH_take (i := 0) (v := ?_) rfl (by kernel_rfl) (by kernel_rfl) (by kernel_rfl) (fun _ _ _ h => h) (Or.inl ⟨by rfl, ?_⟩) (by assumption) ?_
    rotate_left
    · intro W_ hW_
      go_simp
      try with_reducible rfl
    try simp only [List.getElem_toArray, List.getElem_cons_zero, List.getElem_cons_succ, Act.put, List.setIfInBounds_toArray, List.set_cons_zero, List.set_cons_succ]
    refine wpAnyH_take (i := 1) (v := ?_) rfl (by kernel_rfl) (by kernel_rfl) (by kernel_rfl) (fun _ _ _ h => h) (Or.inl ⟨by rfl, ?_⟩) (by assumption) ?_
    rotate_left
    · intro W_ hW_
      go_simp
      try with_reducible rfl
    try simp only [List.getElem_toArray, List.getElem_cons_zero, List.getElem_cons_succ, Act.put, List.setIfInBounds_toArray, List.set_cons_zero, List.set_cons_succ]
    refine wpAnyH_take (i := 2) (v := ?_) rfl (by kernel_rfl) (by kernel_rfl) (by kernel_rfl) (fun _ _ _ h => h) (Or.inl ⟨by rfl, ?_⟩) (by assumption) ?_
    rotate_left
    · intro W_ hW_
      obtain ⟨y36_, y37_⟩ := hW_
      go_simp
      try with_reducible rfl
    try simp only [List.getElem_toArray, List.getElem_cons_zero, List.getElem_cons_succ, Act.put, List.setIfInBounds_toArray, List.set_cons_zero, List.set_cons_succ]
    refine wpAnyH_take (i := 4) (v := ?_) rfl (by kernel_rfl) (by kernel_rfl) (by kernel_rfl) (fun _ _ _ h => h) (Or.inl ⟨by rfl, ?_⟩) (by assumption) ?_
    rotate_left
    · intro W_ hW_
      go_simp
      try with_reducible rfl
    try simp only [List.getElem_toArray, List.getElem_cons_zero, List.getElem_cons_succ, Act.put, List.setIfInBounds_toArray, List.set_cons_zero, List.set_cons_succ]
    refine wpAnyH_take (i := 5) (v := ?_) rfl (by kernel_rfl) (by kernel_rfl) (by kernel_rfl) (fun _ _ _ h => h) (Or.inl ⟨by rfl, ?_⟩) (by assumption) ?_
    rotate_left
    · intro W_ hW_
      obtain ⟨y36_, y37_⟩ := hW_
      go_simp
      try with_reducible rfl
    try simp only [List.getElem_toArray, List.getElem_cons_zero, List.getElem_cons_succ, Act.put, List.setIfInBounds_toArray, List.set_cons_zero, List.set_cons_succ]
    refine wpAnyH_ready (rs := [3]) (by kernel_rfl) (by simp) ?_
    refine AllReadyH.cons rfl (fun KC hKC => ?_) ?_
    · rw [if_pos (by rfl)]
      simp only [List.getElem_toArray, List.getElem_cons_zero, List.getElem_cons_succ]
      go_simp
      refine (rbyte_f wc _ C6.out.drew a6 _ c6 _ K (O6.out.f (Ch.refl _ _).drew) (by decide)).mono ?_
      rintro e w7 ⟨a7, c7, rfl, ho, hc7⟩
      have O7 := hid ho
      have C7 := hid hc7
      clear ho hc7
      try simp only [Ending.then, Go.Ending]
      refine hKC.out _ _ ?_ (fun hHeld => ?_)
      · exact (fun h : DAt _ g0 D U I V H K _ A B => ⟨h.c36, h.c37⟩) (W.out.f C7.out)
      clear hKC KC
      try simp only [List.getElem_toArray, List.getElem_cons_zero, List.getElem_cons_succ, Act.put, List.setIfInBounds_toArray, List.set_cons_zero, List.set_cons_succ]
      refine wpAnyH_ready (rs := [6]) (by kernel_rfl) (by simp) ?_
      refine AllReadyH.cons rfl (fun KC hKC => ?_) ?_
      · rw [if_pos (by rfl)]
        simp only [List.getElem_toArray, List.getElem_cons_zero, List.getElem_cons_succ]
        go_simp
        refine (xbytes_any a n c L _ (HOc.out _ C7.out) hn hc HS.out).mono ?_
        rintro e w8 ⟨a8, c8, rfl, ho, hc8⟩
        have SO := string_of ho.sl w8 rfl
        have C8 := hid (C7.out.f hc8)
        have O8 := hid (O7.out.f hc8)
        clear ho hc8
        try simp only [Ending.then, Go.Ending]
        refine hKC.out _ _ ?_ (fun hHeld => ?_)
        · exact (fun h : DAt _ g0 D U I V H K _ A B => ⟨h.c36, h.c37⟩) (W.out.f C8.out)
        clear hKC KC
        try simp only [List.getElem_toArray, List.getElem_cons_zero, List.getElem_cons_succ, Act.put, List.setIfInBounds_toArray, List.set_cons_zero, List.set_cons_succ]
        refine wpAnyH_ready (rs := [7]) (by kernel_rfl) (by simp) ?_
        refine AllReadyH.cons rfl (fun KC hKC => ?_) ?_
        · rw [if_pos (by rfl)]
          simp only [List.getElem_toArray, List.getElem_cons_zero, List.getElem_cons_succ]
          go_simp
          refine hKC.out _ _ ?_ (fun hHeld => ?_)
          · exact hHeld
          clear hKC KC
          try simp only [List.getElem_toArray, List.getElem_cons_zero, List.getElem_cons_succ, Act.put, List.setIfInBounds_toArray, List.set_cons_zero, List.set_cons_succ]
          refine wpAnyH_ready (rs := [8]) (by kernel_rfl) (by simp) ?_
          refine AllReadyH.cons rfl (fun KC hKC => ?_) ?_
          · rw [if_pos (by rfl)]
            simp only [List.getElem_toArray, List.getElem_cons_zero, List.getElem_cons_succ]
            go_simp
            refine (rtext_f wc _ C8.out a7 _ c7 _ (oB L) O8.out (by decide) OL).mono ?_
            rintro e w9 ⟨a9, c9, rfl, ho, hc9⟩
            have O9 := hid ho
            have C9 := hid hc9
            clear ho hc9 SO
            try simp only [Ending.then, Go.Ending]
            refine hKC.out _ _ ?_ (fun hHeld => ?_)
            · exact (fun h : DAt _ g0 D U I V H K _ A B => ⟨h.c36, h.c37⟩) (W.out.f C9.out)
            clear hKC KC
            try simp only [List.getElem_toArray, List.getElem_cons_zero, List.getElem_cons_succ, Act.put, List.setIfInBounds_toArray, List.set_cons_zero, List.set_cons_succ]
            refine wpAnyH_take (i := 9) (v := ?_) rfl (by kernel_rfl) (by kernel_rfl) (by kernel_rfl) (fun _ _ _ h => h) (Or.inl ⟨by rfl, ?_⟩) (by assumption) ?_
            rotate_left
            · intro W_ hW_
              go_simp
              try with_reducible rfl
            try simp only [List.getElem_toArray, List.getElem_cons_zero, List.getElem_cons_succ, Act.put, List.setIfInBounds_toArray, List.set_cons_zero, List.set_cons_succ]
            refine wpAnyH_done (by kernel_rfl) ?_ _
            go_upto_region 5 with (fail)
            go_region_held3 (fun w' => w'.cell? ⟨g0, 38, none⟩ = some (.int .i64 A) ∧ w'.cell? ⟨g0, 39, none⟩ = some (.int .i64 B)) (first | exact (fun h : DAt _ g0 D U I V H K _ A B => ⟨h.c38, h.c39⟩) (W.out.f C11.out) | exact (fun h : DAt _ g0 D U I V H K _ A B => ⟨h.c38, h.c39⟩) (W.out.f C10.out) | exact (fun h : DAt _ g0 D U I V H K _ A B => ⟨h.c38, h.c39⟩) (W.out.f C9.out.drew)) (first
              | (go_at_call 38; have q_ := K3; refine (rint_f wc _ C9.out.drew a9 _ c9 _ A (O9.out.f (Ch.refl _ _).drew) N1).mono ?_; rintro e w10 ⟨a10, c10, rfl, ho, hc⟩; have O10 := hid ho; have C10 := hid hc; clear ho hc K3 q_ O9)
              | (go_at_call 38; refine (rint_f wc _ C10.out a10 _ c10 _ B O10.out N2).mono ?_; rintro e w11 ⟨a11, c11, rfl, ho, hc⟩; have O11 := hid ho; have C11 := hid hc; clear ho hc O10))
            go_wp2
            go_ret
            have EQ : dB D U I V H K L A B = [] ++ le8 D ++ le8 U ++ le8 I ++ le8 V ++ H ++ [u8of K] ++ txt (oB L) ++ le8 A ++ le8 B := by simp [dB]
            have LEN : (dB D U I V H K L A B).length = 65 + 2 + min (oB L).length 65535 + 8 + 8 := by
              rw [EQ]
              simp only [List.length_append, List.length_nil, txt_len, le8_length, List.length_singleton, hH]
              omega
            rw [LEN, EQ]
            exact ⟨a11, c11, rfl, O11.out.base_le C0.out.size, C0.out.f C11.out⟩
          exact AllReadyH.nil
        exact AllReadyH.nil
      exact AllReadyH.nil
    exact AllReadyH.nil
end Cd
end Go.Proofs.Ytpcgamgjgfdpaaa

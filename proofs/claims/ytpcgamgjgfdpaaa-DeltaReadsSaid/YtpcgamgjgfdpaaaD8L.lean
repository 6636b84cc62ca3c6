/- The statement DeltaReads: its walk. -/
import Derived.Test.YtpcgamgjgfdpaaaD8Z
import Derived.Test.YtpcgamgjgfdpaaaD8J
import Derived.Test.YtpcgamgjgfdpaaaD8S
namespace Go.Proofs.Ytpcgamgjgfdpaaa
namespace Cd
open Go.RowKit Go.Cx Go.OpM Go.Proofs.Ytpcgamgjgfdpaaa.Q Go.Proofs.YtpcgamgjgfdpaaaW.PrintWords Go.Proofs.YtpcgamgjgfdpaaaW.PrintLast Go.Proofs.YtpcgamgjgfdpaaaW.PrintMore
set_option linter.unusedVariables false
set_option linter.unusedSimpArgs false

/-- A delta that is well made. -/
structure GOK (x : DV) : Prop where
  D : I64 x.D
  U : I64 x.U
  I : I64 x.I
  V : I64 x.V
  H : x.H.length = 32
  K : 0 ≤ x.K ∧ x.K ≤ 255
  A : I64 x.A
  B : I64 x.B
  T : (oB x.L).length ≤ 20000
  L : x.L.length ≤ 14
  s : ∀ y ∈ x.L, y.s.length ≤ 1000
  p : parse chkO (oB x.L) = (x.L, 0)
  c : dck chkO x = 0
theorem good_ok (D U I V : Int) (H : List UInt8) (K A B A' B' : Int) (o L : List O3) (hH : H.length = 32) (ho14 : o.length ≤ 14) (hoall : ∀ x ∈ o, (0 ≤ x.k ∧ x.k ≤ 255 ∧ I64 x.n ∧ x.s.length ≤ 1000) ∧ chk x.k x.n x.s = 0)
    (h : L = o ∧ K % 3 = 0 ∧ A' = 0 ∧ B' = 0 ∨ L = [] ∧ K % 3 ≠ 0 ∧ A' = A % 3 ∧ B' = B % 8) : GOK ⟨D % 3, U % 8, I % 1073741825, V % 1048577, H, 1 + K % 3, L, A', B'⟩ := by
  have d0 := Int.emod_nonneg D (by omega : (3 : Int) ≠ 0)
  have d1 := Int.emod_lt_of_pos D (by omega : (0 : Int) < 3)
  have u0 := Int.emod_nonneg U (by omega : (8 : Int) ≠ 0)
  have u1 := Int.emod_lt_of_pos U (by omega : (0 : Int) < 8)
  have i0 := Int.emod_nonneg I (by omega : (1073741825 : Int) ≠ 0)
  have i1 := Int.emod_lt_of_pos I (by omega : (0 : Int) < 1073741825)
  have v0 := Int.emod_nonneg V (by omega : (1048577 : Int) ≠ 0)
  have v1 := Int.emod_lt_of_pos V (by omega : (0 : Int) < 1048577)
  have k0 := Int.emod_nonneg K (by omega : (3 : Int) ≠ 0)
  have k1 := Int.emod_lt_of_pos K (by omega : (0 : Int) < 3)
  have a0 := Int.emod_nonneg A (by omega : (3 : Int) ≠ 0)
  have a1 := Int.emod_lt_of_pos A (by omega : (0 : Int) < 3)
  have b0 := Int.emod_nonneg B (by omega : (8 : Int) ≠ 0)
  have b1 := Int.emod_lt_of_pos B (by omega : (0 : Int) < 8)
  generalize D % 3 = d at *
  generalize U % 8 = u at *
  generalize I % 1073741825 = i at *
  generalize V % 1048577 = v at *
  generalize K % 3 = k at *
  generalize A % 3 = a at *
  generalize B % 8 = b at *
  have hu : uOk d u = true := by unfold uOk; simp; omega
  have hg : ¬ (uOk d u = false ∨ ¬ (0 ≤ i ∧ i ≤ 1073741824) ∨ ¬ (0 ≤ v ∧ v ≤ 1048576)) := by
    rintro (h | h | h)
    · rw [hu] at h; simp at h
    · omega
    · omega
  have big : ∀ z : Int, 0 ≤ z → z ≤ 2000000000 → I64 z := fun z h1 h2 => ⟨by omega, by omega⟩
  have hs : ∀ y ∈ L, y.s.length ≤ 1000 := by
    rcases h with ⟨rfl, _⟩ | ⟨rfl, _⟩
    · exact fun x hx => (hoall x hx).1.2.2.2
    · exact fun x hx => by cases hx
  have hl : L.length ≤ 14 := by
    rcases h with ⟨rfl, _⟩ | ⟨rfl, _⟩
    · exact ho14
    · simp
  have hp : parse chkO (oB L) = (L, 0) ∧ chkO L = 0 := by
    have hc : chkO L = 0 := by
      rcases h with ⟨rfl, _⟩ | ⟨rfl, _⟩
      · exact chkO_ok _ (by omega) (fun x hx => (hoall x hx).2)
      · rfl
    refine ⟨parse_back L (by omega) (fun x hx => ?_) hc, hc⟩
    rcases h with ⟨rfl, _⟩ | ⟨rfl, _⟩
    · obtain ⟨⟨q1, q2, q3, q4⟩, _⟩ := hoall x hx
      exact ⟨q1, q2, q3, by omega⟩
    · cases hx
  have hT : (oB L).length ≤ 20000 := by
    have := oP_len2 L L.length hs hl (Nat.le_refl _)
    rwa [oP_all] at this
  have hA : I64 A' := by
    rcases h with ⟨_, _, e1, _⟩ | ⟨_, _, e1, _⟩
    · exact big A' (by omega) (by omega)
    · exact big A' (by omega) (by omega)
  have hB : I64 B' := by
    rcases h with ⟨_, _, _, e1⟩ | ⟨_, _, _, e1⟩
    · exact big B' (by omega) (by omega)
    · exact big B' (by omega) (by omega)
  refine ⟨big d d0 (by omega), big u u0 (by omega), big i i0 (by omega), big v v0 (by omega), hH, ⟨by dsimp only; omega, by dsimp only; omega⟩, hA, hB, hT, hl, hs, hp.1, ?_⟩
  · unfold dck
    rw [if_neg hg]
    rcases h with ⟨rfl, rfl, rfl, rfl⟩ | ⟨rfl, hk, rfl, rfl⟩
    · rw [if_pos (by dsimp only; omega), if_neg (by rw [hp.2]; simp), if_pos ⟨rfl, rfl⟩]
    · rw [if_neg (by dsimp only; omega), if_pos (by dsimp only; omega), if_pos ⟨rfl, by unfold uOk; simp; omega⟩]
theorem gok_bytes {x : DV} (h : GOK x) : x.bytes.length ≤ 21000 := by
  have h5 : ([x.D, x.U, x.I, x.V].flatMap le8).length = 32 := fm4_len x.D x.U x.I x.V 4 (Nat.le_refl _)
  have := h.T
  unfold DV.bytes dB
  simp only [List.length_append, txt_len, le8_length, List.length_singleton, h5, h.H]
  omega
theorem gok_back {x : DV} (h : GOK x) : parseD chkO x.bytes = (x, 0) :=
  parseD_back x h.D h.U h.I h.V h.H h.K h.A h.B (by have := h.T; omega) h.p h.c
theorem parseD_len (b : List UInt8) : (parseD chkO b).1.L.length ≤ 40 := by
  unfold parseD
  obtain ⟨x, T, E, h⟩ : ∃ x T E, rdAll b = (x, T, E) := ⟨_, _, _, rfl⟩
  have hl := parse_len chkO T
  obtain ⟨L, e, hp⟩ : ∃ L e, parse chkO T = (L, e) := ⟨_, _, rfl⟩
  rw [hp] at hl
  rw [h]
  dsimp only
  split
  · simp [DV.zero]
  · rw [hp]
    dsimp only
    split
    · simp [DV.zero]
    · split
      · simp [DV.zero]
      · exact hl
theorem parseD_H {b : List UInt8} {x : DV} {E : Int} (h : parseD chkO b = (x, E)) : x.H.length = 32 := by
  have e : (parseD chkO b).1.H.length = 32 := by
    have z : DV.zero.H.length = 32 := by simp [DV.zero]
    have r : (rdAll b).1.H.length = 32 := rdH_len 32 _ _
    obtain ⟨y, T, E', h'⟩ : ∃ y T E, rdAll b = (y, T, E) := ⟨_, _, _, rfl⟩
    rw [h'] at r
    unfold parseD
    rw [h']
    obtain ⟨L, e, hp⟩ : ∃ L e, parse chkO T = (L, e) := ⟨_, _, rfl⟩
    dsimp only
    split
    · exact z
    · rw [hp]
      dsimp only
      split
      · exact z
      · split
        · exact z
        · exact r
  rw [h] at e
  exact e
theorem Own.set {w : World} {base : Nat} {T : TypeId} {g n c : Nat} {xs : List Value} (h : Own w base T 1 (some ⟨g, 0, none⟩) n c xs) (j : Nat) (v : Value) : Own (w.setCell ⟨g, j, none⟩ v) base T 1 (some ⟨g, 0, none⟩) n c (xs.set j v) := by
  obtain ⟨h1, ⟨h2, rfl⟩ | ⟨g', cap, cur, h2, hb, hg, hn, hm', hs, ht⟩⟩ := h
  · simp at h2
  · simp only [Value.slice.injEq, Option.some.injEq, Addr.mk.injEq] at h2
    obtain ⟨⟨rfl, _, _⟩, _, rfl⟩ := h2
    refine ⟨by rw [List.length_set]; exact h1, .inr ⟨g, c, cur.setIfInBounds j v, rfl, hb, set_blk hg j v, hn, hm', by rw [Array.size_setIfInBounds]; exact hs, by rw [Array.toList_setIfInBounds, List.take_set, ht]⟩⟩
theorem gok_pos {x : DV} (h : GOK x) : 0 < x.bytes.length := by
  unfold DV.bytes dB
  simp only [List.length_append, txt_len, le8_length, List.length_singleton, h.H]
  omega
theorem modn (a : Int) (n : Nat) : ∃ j : Nat, (j : Int) = a % ((n : Int) + 1) ∧ j ≤ n := by
  have h0 := Int.emod_nonneg a (show (n : Int) + 1 ≠ 0 by omega)
  have h1 := Int.emod_lt_of_pos a (show (0 : Int) < (n : Int) + 1 by omega)
  exact ⟨(a % ((n : Int) + 1)).toNat, by omega, by omega⟩
theorem within8n (a : Int) (n : Nat) (w : World) (hn : (n : Int) + 1 ≤ 1000000000000) : Calls Try.prog 10 #[.int .i64 a, .int .i64 ((n : Int) + 1)] w fun e w' => ∃ j : Nat, j ≤ n ∧ e = .returned (.int .i64 (j : Int)) ∧ w = w' := by
  obtain ⟨j, hj, hjn⟩ := modn a n
  refine (within8_any a _ w (by omega) hn).mono ?_
  rintro e w' ⟨rfl, rfl⟩
  exact ⟨j, hjn, by rw [hj], rfl⟩
/-- Four rows of bytes. -/
def Rows4 (w : World) (g : Nat) : Prop := ∀ i, i < 4 → ∃ (a : Option Addr) (n c : Nat) (B : List UInt8), w.cell? ⟨g, i, none⟩ = some (.slice a n c) ∧ Sl w 1 a n c (bv B) ∧ n ≤ 1000000
theorem Rows4.f {w w' : World} {g : Nat} (h : Rows4 w g) (hc : Ch (fun _ => False) w w') : Rows4 w' g := by
  intro i hi
  obtain ⟨a, n, c, B, h1, h2, h3⟩ := h i hi
  exact ⟨a, n, c, B, hc.cell h1 id, h2.below hc.below0, h3⟩
theorem rows4_new {w : World} (T : TypeId) {a0 a1 a2 a3 : Option Addr} {n0 n1 n2 n3 c0 c1 c2 c3 : Nat} {B0 B1 B2 B3 : List UInt8} (h0 : Sl w 1 a0 n0 c0 (bv B0)) (h1 : Sl w 1 a1 n1 c1 (bv B1)) (h2 : Sl w 1 a2 n2 c2 (bv B2)) (h3 : Sl w 1 a3 n3 c3 (bv B3))
    (k0 : n0 ≤ 1000000) (k1 : n1 ≤ 1000000) (k2 : n2 ≤ 1000000) (k3 : n3 ≤ 1000000) : Rows4 (w.alloc (.cells #[.slice a0 n0 c0, .slice a1 n1 c1, .slice a2 n2 c2, .slice a3 n3 c3] T)) w.heap.size := by
  have hb := alloc_blk_new (w := w) (.cells #[.slice a0 n0 c0, .slice a1 n1 c1, .slice a2 n2 c2, .slice a3 n3 c3] T) rfl
  have hc := ((Ch.refl (fun _ => False) w).alloc (.cells #[.slice a0 n0 c0, .slice a1 n1 c1, .slice a2 n2 c2, .slice a3 n3 c3] T)).below0
  intro i hi
  rcases (show i = 0 ∨ i = 1 ∨ i = 2 ∨ i = 3 by omega) with rfl | rfl | rfl | rfl
  · exact ⟨a0, n0, c0, B0, cell_blk hb 0, h0.below hc, k0⟩
  · exact ⟨a1, n1, c1, B1, cell_blk hb 1, h1.below hc, k1⟩
  · exact ⟨a2, n2, c2, B2, cell_blk hb 2, h2.below hc, k2⟩
  · exact ⟨a3, n3, c3, B3, cell_blk hb 3, h3.below hc, k3⟩
theorem dB_len (D U I V : Int) (H : List UInt8) (K : Int) (L : List O3) (A B : Int) (hH : H.length = 32) : (dB D U I V H K L A B).length ≤ 1000000 := by
  have h5 : ([D, U, I, V].flatMap le8).length = 32 := fm4_len D U I V 4 (Nat.le_refl _)
  unfold dB
  simp only [List.length_append, txt_len, le8_length, List.length_singleton, h5, hH]
  omega
theorem chkO_short {L : List O3} (h : chkO L = 0) : ∀ x ∈ L, x.s.length ≤ 1000 := by
  intro x hx
  have h0 : chk x.k x.n x.s = 0 := by
    unfold chkO at h
    by_cases h40 : L.length > 40
    · rw [if_pos h40] at h
      simp at h
    · rw [if_neg h40] at h
      cases hf : (L.map fun c => chk c.k c.n c.s).find? (· ≠ 0) with
      | none =>
        have := List.find?_eq_none.1 hf _ (List.mem_map.2 ⟨x, hx, rfl⟩)
        simpa using this
      | some v =>
        have h1 := List.find?_some hf
        rw [hf] at h
        simp at h h1
        exact absurd h h1
  unfold chk at h0
  by_cases h1 : x.k = 1 ∨ x.k = 3
  · rw [if_pos h1] at h0
    by_cases h2 : x.n < 1 ∨ x.n > 120 ∨ x.s ≠ []
    · rw [if_pos h2] at h0
      simp at h0
    · have : x.s = [] := Classical.byContradiction fun h3 => h2 (.inr (.inr h3))
      rw [this]
      simp
  · rw [if_neg h1] at h0
    by_cases h2 : x.k = 2
    · rw [if_pos h2] at h0
      by_cases h3 : x.n ≠ 0 ∨ x.s = []
      · rw [if_pos h3] at h0
        simp at h0
      · rw [if_neg h3] at h0
        by_cases h4 : x.s.length > 120
        · rw [if_pos h4] at h0
          simp at h0
        · omega
    · rw [if_neg h2] at h0
      simp at h0
/-- What is read, at a delta's place. -/
def XAt (w : World) (g : Nat) (x : DV) : Prop := ∃ a c, w.heap[g]? = some (.cells (x.cells a c) 30 (0, 0)) ∧ OpsAt w a x.L.length x.L ∧ x.L.length ≤ c
theorem XAt.f {w w' : World} {g : Nat} {x : DV} (h : XAt w g x) (hc : Ch (fun _ => False) w w') : XAt w' g x := by
  obtain ⟨a, c, h1, h2, h3⟩ := h
  exact ⟨a, c, hc.heap h1 id, h2.below hc, h3⟩
/-- A row of parts that was read. -/
def OAt (w : World) (v : Value) (l : List O3) : Prop := ∃ a c, v = .slice a l.length c ∧ OpsAt w a l.length l ∧ l.length ≤ c
theorem OAt.f {w w' : World} {v : Value} {l : List O3} (h : OAt w v l) (hc : Ch (fun _ => False) w w') : OAt w' v l := by
  obtain ⟨a, c, h1, h2, h3⟩ := h
  exact ⟨a, c, h1, h2.below hc, h3⟩
set_option maxRecDepth 100000 in
set_option maxHeartbeats 16000000 in
theorem DeltaReads_walk0 (w : World) (v0 : Value) (h0 : DArg w v0) (x1 : Int) (a2 : Option Addr) (n2 c2 : Nat) (l2 : List Int) (h2 : Sl w 1 a2 n2 c2 (iv l2)) (a3 : Option Addr) (n3 c3 : Nat) (l3 : List Int) (h3 : Sl w 1 a3 n3 c3 (iv l3))
    (a4 : Option Addr) (n4 c4 : Nat) (l4 : List UInt8) (h4 : Sl w 1 a4 n4 c4 (bv l4)) (x5 : Int) (a6 : Option Addr) (n6 c6 : Nat) (l6 : List UInt8) (h6 : Sl w 1 a6 n6 c6 (bv l6)) :
    Calls Try.prog 8 #[v0, .int .i64 x1, .slice a2 n2 c2, .slice a3 n3 c3, .slice a4 n4 c4, .int .i64 x5, .slice a6 n6 c6] w fun e w' => e = .returned (.bool true) ∧ Below w.heap.size w w' := by
  refine Calls.mono (R := True_ w) ?_ (fun e w' h => ⟨h.1, h.2.below0⟩)
  obtain ⟨D, U, I, V, H, K, a, n, c, A, B, L, rfl, hH, hO⟩ := h0
  obtain ⟨hO, hc, hn⟩ := hO
  have t0 := Int.emod_nonneg x1 (by omega : (100 : Int) ≠ 0)
  have t1 := Int.emod_lt_of_pos x1 (by omega : (0 : Int) < 100)
  obtain ⟨m, hm⟩ : ∃ m : Nat, (m : Int) = x1 % 100 := ⟨(x1 % 100).toNat, by omega⟩
  obtain ⟨o, ho14, hoall, hmk⟩ := maker w m (by omega) a2 n2 c2 l2 h2
  have XM := hid hm
  have MK := hid hmk
  have OA := hid hoall
  have O14 := hid ho14
  have HO := hid hO
  have S3 := hid h3
  have S4 := hid h4
  have S6 := hid h6
  have W0 := hid (DAt.new (w := w) (D := D) (U := U) (I := I) (V := V) (K := K) (o := .slice a n c) (A := A) (B := B) hH)
  have C0 := hid ((Ch.refl (fun _ => False) w).alloc (.cells (D40 D U I V H K (.slice a n c) A B) 30))
  obtain ⟨F, hF⟩ : ∃ F, F = ((L.all fun x => decide (x.s.length ≤ 150)) && decide (n ≤ 50)) := ⟨_, rfl⟩
  have HF := hid hF
  have hcS := hc
  clear t0 t1 hm hmk hoall hF h2 h3 h4 h6 hO ho14
  go_enter Try.func8, Try.ntmps8
  by_cases hfail : F = false ∨ 200 < n6
  · cases F with
    | false =>
      go_wp2_with (first
        | (go_at_call 9; refine (known8_any _).mono ?_; rintro e w1 ⟨rfl, hc1⟩; have C1 := hid (C0.out.f hc1); have W1 := hid (W0.out.f hc1); clear hc1)
        | (refine wpList_load_row rfl 30 _ rfl w.heap.size rfl 30 (D40 D U I V H K (.slice a n c) A B) (0, 0) _ W1.out.blk Try.underlying30 rfl (by rw [D40_size hH]; exact sz40) ?_)
        | (go_at_call 15; refine (few8_any D U I V H K a n c A B L _ hH (HO.out.below C1.out) hc hn).mono ?_; rw [← HF.out]; rintro e w2 ⟨rfl, hc2⟩; have C2 := hid (C1.out.f hc2); clear hc2))
      go_ret
      exact ⟨rfl, C2.out⟩
    | true =>
      have h200 : (200 : Int) < n6 := by
        rcases hfail with h | h
        · simp at h
        · omega
      go_wp2_with (first
        | (go_at_call 9; refine (known8_any _).mono ?_; rintro e w1 ⟨rfl, hc1⟩; have C1 := hid (C0.out.f hc1); have W1 := hid (W0.out.f hc1); clear hc1)
        | (refine wpList_load_row rfl 30 _ rfl w.heap.size rfl 30 (D40 D U I V H K (.slice a n c) A B) (0, 0) _ W1.out.blk Try.underlying30 rfl (by rw [D40_size hH]; exact sz40) ?_)
        | (go_at_call 15; refine (few8_any D U I V H K a n c A B L _ hH (HO.out.below C1.out) hc hn).mono ?_; rw [← HF.out]; rintro e w2 ⟨rfl, hc2⟩; have C2 := hid (C1.out.f hc2); clear hc2))
      go_ret
      exact ⟨rfl, C2.out⟩
  · obtain rfl : F = true := by
      cases F with
      | true => rfl
      | false => exact absurd (.inl rfl) hfail
    have h200 : ¬ (200 : Int) < n6 := by
      intro h
      exact hfail (.inr (by omega))
    clear hfail
    have hf := HF.out
    rw [eq_comm, Bool.and_eq_true, List.all_eq_true, decide_eq_true_iff] at hf
    have hn50 := hf.2
    have LS0 := hid (show ∀ x ∈ L, x.s.length ≤ 1000 from fun x hx => by have := of_decide_eq_true (hf.1 x hx); omega)
    clear hf
    go_upto_region 5 with (first
      | (go_at_call 9; refine (known8_any _).mono ?_; rintro e w1 ⟨rfl, hc1⟩; have C1 := hid (C0.out.f hc1); have W1 := hid (W0.out.f hc1); clear hc1)
      | (refine wpList_load_row rfl 30 _ rfl w.heap.size rfl 30 (D40 D U I V H K (.slice a n c) A B) (0, 0) _ W1.out.blk Try.underlying30 rfl (by rw [D40_size hH]; exact sz40) ?_)
      | (go_at_call 15; refine (few8_any D U I V H K a n c A B L _ hH (HO.out.below C1.out) hc hn).mono ?_; rw [← HF.out]; rintro e w2 ⟨rfl, hc2⟩; have C2 := hid (C1.out.f hc2); have W2 := hid (W1.out.f hc2); clear hc2))
    go_cut [15] (fun v7 wd => ∃ (g7 : Nat) (X : DV) (a' : Option Addr) (c' : Nat), v7 = .pointer (some ⟨g7, 0, none⟩) ∧ Hid (DAt wd g7 X.D X.U X.I X.V X.H X.K (.slice a' X.L.length c') X.A X.B) ∧ Hid (OpsAt wd a' X.L.length X.L) ∧ X.L.length ≤ c' ∧ Hid (GOK X) ∧ Hid (DAt wd w.heap.size D U I V H K (.slice a n c) A B) ∧ Hid (Ch (fun _ => False) w wd))
    case first =>
      as_aux_lemma =>
        refine wp_region_held_drew (S := (fun w' => DAt w' w.heap.size D U I V H K (.slice a n c) A B)) (by kernel_rfl) ?_ (fun hHeld => ?_)
        · exact W2.out.f (Ch.refl _ _).drew
        refine wpAnyH_take (i := 0) (v := _) rfl (by kernel_rfl) (by kernel_rfl) (by kernel_rfl) (fun _ _ _ h => h) (yieldsIf_load_mid (by rfl) _ _ rfl w.heap.size 0 rfl (D40 D U I V H K (.slice a n c) A B).toList _ (fun w_ hw_ => hw_.rows) Try.underlying30 rfl (by rw [Array.length_toList, D40_size hH]; exact sz40)) (by assumption) ?_
        simp only [Array.toArray_toList]
        try simp only [List.getElem_toArray, List.getElem_cons_zero, List.getElem_cons_succ, Act.put, List.setIfInBounds_toArray, List.set_cons_zero, List.set_cons_succ]
        refine wpAnyH_take (i := 1) (v := ?_) rfl (by kernel_rfl) (by kernel_rfl) (by kernel_rfl) (fun _ _ _ h => h) (Or.inl ⟨by rfl, ?_⟩) (by assumption) ?_
        rotate_left
        · intro W_ hW_
          go_simp
          try with_reducible rfl
        try simp only [List.getElem_toArray, List.getElem_cons_zero, List.getElem_cons_succ, Act.put, List.setIfInBounds_toArray, List.set_cons_zero, List.set_cons_succ]
        refine wpAnyH_take (i := 3) (v := ?_) rfl (by kernel_rfl) (by kernel_rfl) (by kernel_rfl) (fun _ _ _ h => h) (Or.inl ⟨by rfl, ?_⟩) (by assumption) ?_
        rotate_left
        · intro W_ hW_
          go_simp
          try with_reducible rfl
        try simp only [List.getElem_toArray, List.getElem_cons_zero, List.getElem_cons_succ, Act.put, List.setIfInBounds_toArray, List.set_cons_zero, List.set_cons_succ]
        refine wpAnyH_ready (rs := [2, 5]) (by kernel_rfl) (by simp) ?_
        refine AllReadyH.cons rfl (fun KC hKC => ?_) ?_
        · rw [if_pos (by rfl)]
          simp only [List.getElem_toArray, List.getElem_cons_zero, List.getElem_cons_succ]
          go_simp
          refine (within8_any x1 100 _ (by decide) (by decide)).mono ?_
          rintro e w2 ⟨rfl, rfl⟩
          try simp only [Ending.then, Go.Ending]
          rw [← XM.out]
          refine hKC.out _ _ ?_ (fun hHeld => ?_)
          · exact hHeld
          clear hKC KC
          try simp only [List.getElem_toArray, List.getElem_cons_zero, List.getElem_cons_succ, Act.put, List.setIfInBounds_toArray, List.set_cons_zero, List.set_cons_succ]
          refine wpAnyH_ready (rs := [4, 5]) (by kernel_rfl) (by simp) ?_
          refine AllReadyH.cons rfl (fun KC hKC => ?_) ?_
          · rw [if_pos (by rfl)]
            simp only [List.getElem_toArray, List.getElem_cons_zero, List.getElem_cons_succ]
            go_simp
            refine (good8_any D U I V H K a n c A B m a2 n2 c2 o _ hH (fun w' hw => MK.out w' ((C2.out.f (by first | exact (Ch.refl _ _).drew | exact ((Ch.refl _ _).alloc _).drew | exact (Ch.refl _ _).drew.alloc _)).f hw))).mono ?_
            rintro e w9 ⟨L2, a', c', A', B', rfl, hop, hcc, hch, hnw, hcase⟩
            try simp only [Ending.then, Go.Ending]
            refine hKC.out _ _ ?_ (fun hHeld => ?_)
            · exact hHeld.f hch
            clear hKC KC
            try simp only [List.getElem_toArray, List.getElem_cons_zero, List.getElem_cons_succ, Act.put, List.setIfInBounds_toArray, List.set_cons_zero, List.set_cons_succ]
            refine wpAnyH_ready (rs := [5]) (by kernel_rfl) (by simp) ?_
            refine AllReadyH.cons rfl (fun KC hKC => ?_) ?_
            · rw [if_pos (by rfl)]
              simp only [List.getElem_toArray, List.getElem_cons_zero, List.getElem_cons_succ]
              go_simp
              refine hKC.out _ _ ?_ (fun hHeld => ?_)
              · first | exact W2.out.f (Ch.refl _ _).drew | exact W2.out.f ((Ch.refl _ _).drew.alloc _) | exact W2.out.f ((Ch.refl _ _).alloc _).drew | exact (W2.out.f (Ch.refl _ _).drew).f (hch.alloc _) | exact (W2.out.f (Ch.refl _ _).drew).f ((hch.alloc _))
              clear hKC KC
              try simp only [List.getElem_toArray, List.getElem_cons_zero, List.getElem_cons_succ, Act.put, List.setIfInBounds_toArray, List.set_cons_zero, List.set_cons_succ]
              refine wpAnyH_ready (rs := [6]) (by kernel_rfl) (by simp) ?_
              refine AllReadyH.cons rfl (fun KC hKC => ?_) ?_
              · rw [if_pos (by rfl)]
                simp only [List.getElem_toArray, List.getElem_cons_zero, List.getElem_cons_succ]
                refine wp_store_row _ _ _ rfl _ _ rfl rfl _ _ (by first | exact heap_alloc_last _ _ | exact hch.heap (heap_alloc_last _ _) id) (by rw [D40_size hH]; exact sz40) (by rw [D40_size hH]; rfl) (D40_one rfl) ?_
                refine hKC.out _ _ ?_ (fun hHeld => ?_)
                · exact hHeld.row_ne _ (by have h_ := lt_of_block W2.out.blk; first | omega | (have h2_ := hch.size; simp at h2_; omega))
                clear hKC KC
                try simp only [List.getElem_toArray, List.getElem_cons_zero, List.getElem_cons_succ, Act.put, List.setIfInBounds_toArray, List.set_cons_zero, List.set_cons_succ]
                refine wpAnyH_done (by kernel_rfl) ?_ _
                go_wp2
                go_meet
                case rel =>
                  first
                  | exact ⟨w2.heap.size, ⟨_, _, _, _, H, _, L2, A', B'⟩, a', c', rfl, hid ⟨setRow_blk (hch.heap (heap_alloc_last w2 _) id), hH⟩, hid (hop.chS ((Ch.refl (fun k => k = w2.heap.size) _).setRow _ (.inl rfl)) (fun b hb hlt he => by have := hnw b hb; simp at this; omega)), hcc, hid (good_ok D U I V H K A B A' B' o L2 hH O14.out OA.out hcase), hid (hHeld), hid (((C2.out.f (by first | exact ((Ch.refl _ _).alloc _).drew | exact (Ch.refl _ _).drew.alloc _)).f hch).setRow _ (.inr C2.out.size))⟩
                  | exact ⟨w9.heap.size, ⟨_, _, _, _, H, _, L2, A', B'⟩, a', c', rfl, hid ⟨setRow_blk (heap_alloc_last w9 _), hH⟩, hid (hop.chS (((Ch.refl (fun k => k = w9.heap.size) _).alloc _).setRow _ (.inl rfl)) (fun b hb hlt he => by omega)), hcc, hid (good_ok D U I V H K A B A' B' o L2 hH O14.out OA.out hcase), hid (hHeld), hid ((((C2.out.f (Ch.refl _ _).drew).f hch).alloc _).setRow _ (.inr ((C2.out.f (Ch.refl _ _).drew).f hch).size))⟩
              exact AllReadyH.nil
            exact AllReadyH.nil
          refine AllReadyH.cons rfl (fun KC hKC => ?_) ?_
          · rw [if_pos (by rfl)]
            simp only [List.getElem_toArray, List.getElem_cons_zero, List.getElem_cons_succ]
            go_simp
            refine hKC.out _ _ ?_ (fun hHeld => ?_)
            · first | exact W2.out.f (Ch.refl _ _).drew | exact W2.out.f ((Ch.refl _ _).drew.alloc _) | exact W2.out.f ((Ch.refl _ _).alloc _).drew | exact (W2.out.f (Ch.refl _ _).drew).f (hch.alloc _) | exact (W2.out.f (Ch.refl _ _).drew).f ((hch.alloc _))
            clear hKC KC
            try simp only [List.getElem_toArray, List.getElem_cons_zero, List.getElem_cons_succ, Act.put, List.setIfInBounds_toArray, List.set_cons_zero, List.set_cons_succ]
            refine wpAnyH_ready (rs := [4]) (by kernel_rfl) (by simp) ?_
            refine AllReadyH.cons rfl (fun KC hKC => ?_) ?_
            · rw [if_pos (by rfl)]
              simp only [List.getElem_toArray, List.getElem_cons_zero, List.getElem_cons_succ]
              go_simp
              refine (good8_any D U I V H K a n c A B m a2 n2 c2 o _ hH (fun w' hw => MK.out w' ((C2.out.f (by first | exact (Ch.refl _ _).drew | exact ((Ch.refl _ _).alloc _).drew | exact (Ch.refl _ _).drew.alloc _)).f hw))).mono ?_
              rintro e w9 ⟨L2, a', c', A', B', rfl, hop, hcc, hch, hnw, hcase⟩
              try simp only [Ending.then, Go.Ending]
              refine hKC.out _ _ ?_ (fun hHeld => ?_)
              · exact hHeld.f hch
              clear hKC KC
              try simp only [List.getElem_toArray, List.getElem_cons_zero, List.getElem_cons_succ, Act.put, List.setIfInBounds_toArray, List.set_cons_zero, List.set_cons_succ]
              refine wpAnyH_ready (rs := [6]) (by kernel_rfl) (by simp) ?_
              refine AllReadyH.cons rfl (fun KC hKC => ?_) ?_
              · rw [if_pos (by rfl)]
                simp only [List.getElem_toArray, List.getElem_cons_zero, List.getElem_cons_succ]
                refine wp_store_row _ _ _ rfl _ _ rfl rfl _ _ (by first | exact heap_alloc_last _ _ | exact hch.heap (heap_alloc_last _ _) id) (by rw [D40_size hH]; exact sz40) (by rw [D40_size hH]; rfl) (D40_one rfl) ?_
                refine hKC.out _ _ ?_ (fun hHeld => ?_)
                · exact hHeld.row_ne _ (by have h_ := lt_of_block W2.out.blk; first | omega | (have h2_ := hch.size; simp at h2_; omega))
                clear hKC KC
                try simp only [List.getElem_toArray, List.getElem_cons_zero, List.getElem_cons_succ, Act.put, List.setIfInBounds_toArray, List.set_cons_zero, List.set_cons_succ]
                refine wpAnyH_done (by kernel_rfl) ?_ _
                go_wp2
                go_meet
                case rel =>
                  first
                  | exact ⟨w2.heap.size, ⟨_, _, _, _, H, _, L2, A', B'⟩, a', c', rfl, hid ⟨setRow_blk (hch.heap (heap_alloc_last w2 _) id), hH⟩, hid (hop.chS ((Ch.refl (fun k => k = w2.heap.size) _).setRow _ (.inl rfl)) (fun b hb hlt he => by have := hnw b hb; simp at this; omega)), hcc, hid (good_ok D U I V H K A B A' B' o L2 hH O14.out OA.out hcase), hid (hHeld), hid (((C2.out.f (by first | exact ((Ch.refl _ _).alloc _).drew | exact (Ch.refl _ _).drew.alloc _)).f hch).setRow _ (.inr C2.out.size))⟩
                  | exact ⟨w9.heap.size, ⟨_, _, _, _, H, _, L2, A', B'⟩, a', c', rfl, hid ⟨setRow_blk (heap_alloc_last w9 _), hH⟩, hid (hop.chS (((Ch.refl (fun k => k = w9.heap.size) _).alloc _).setRow _ (.inl rfl)) (fun b hb hlt he => by omega)), hcc, hid (good_ok D U I V H K A B A' B' o L2 hH O14.out OA.out hcase), hid (hHeld), hid ((((C2.out.f (Ch.refl _ _).drew).f hch).alloc _).setRow _ (.inr ((C2.out.f (Ch.refl _ _).drew).f hch).size))⟩
              exact AllReadyH.nil
            exact AllReadyH.nil
          exact AllReadyH.nil
        refine AllReadyH.cons rfl (fun KC hKC => ?_) ?_
        · rw [if_pos (by rfl)]
          simp only [List.getElem_toArray, List.getElem_cons_zero, List.getElem_cons_succ]
          go_simp
          refine hKC.out _ _ ?_ (fun hHeld => ?_)
          · first | exact W2.out.f (Ch.refl _ _).drew | exact W2.out.f ((Ch.refl _ _).drew.alloc _) | exact W2.out.f ((Ch.refl _ _).alloc _).drew | exact (W2.out.f (Ch.refl _ _).drew).f (hch.alloc _) | exact (W2.out.f (Ch.refl _ _).drew).f ((hch.alloc _))
          clear hKC KC
          try simp only [List.getElem_toArray, List.getElem_cons_zero, List.getElem_cons_succ, Act.put, List.setIfInBounds_toArray, List.set_cons_zero, List.set_cons_succ]
          refine wpAnyH_ready (rs := [2]) (by kernel_rfl) (by simp) ?_
          refine AllReadyH.cons rfl (fun KC hKC => ?_) ?_
          · rw [if_pos (by rfl)]
            simp only [List.getElem_toArray, List.getElem_cons_zero, List.getElem_cons_succ]
            go_simp
            refine (within8_any x1 100 _ (by decide) (by decide)).mono ?_
            rintro e w2 ⟨rfl, rfl⟩
            try simp only [Ending.then, Go.Ending]
            rw [← XM.out]
            refine hKC.out _ _ ?_ (fun hHeld => ?_)
            · exact hHeld
            clear hKC KC
            try simp only [List.getElem_toArray, List.getElem_cons_zero, List.getElem_cons_succ, Act.put, List.setIfInBounds_toArray, List.set_cons_zero, List.set_cons_succ]
            refine wpAnyH_ready (rs := [4]) (by kernel_rfl) (by simp) ?_
            refine AllReadyH.cons rfl (fun KC hKC => ?_) ?_
            · rw [if_pos (by rfl)]
              simp only [List.getElem_toArray, List.getElem_cons_zero, List.getElem_cons_succ]
              go_simp
              refine (good8_any D U I V H K a n c A B m a2 n2 c2 o _ hH (fun w' hw => MK.out w' ((C2.out.f (by first | exact (Ch.refl _ _).drew | exact ((Ch.refl _ _).alloc _).drew | exact (Ch.refl _ _).drew.alloc _)).f hw))).mono ?_
              rintro e w9 ⟨L2, a', c', A', B', rfl, hop, hcc, hch, hnw, hcase⟩
              try simp only [Ending.then, Go.Ending]
              refine hKC.out _ _ ?_ (fun hHeld => ?_)
              · exact hHeld.f hch
              clear hKC KC
              try simp only [List.getElem_toArray, List.getElem_cons_zero, List.getElem_cons_succ, Act.put, List.setIfInBounds_toArray, List.set_cons_zero, List.set_cons_succ]
              refine wpAnyH_ready (rs := [6]) (by kernel_rfl) (by simp) ?_
              refine AllReadyH.cons rfl (fun KC hKC => ?_) ?_
              · rw [if_pos (by rfl)]
                simp only [List.getElem_toArray, List.getElem_cons_zero, List.getElem_cons_succ]
                refine wp_store_row _ _ _ rfl _ _ rfl rfl _ _ (by first | exact heap_alloc_last _ _ | exact hch.heap (heap_alloc_last _ _) id) (by rw [D40_size hH]; exact sz40) (by rw [D40_size hH]; rfl) (D40_one rfl) ?_
                refine hKC.out _ _ ?_ (fun hHeld => ?_)
                · exact hHeld.row_ne _ (by have h_ := lt_of_block W2.out.blk; first | omega | (have h2_ := hch.size; simp at h2_; omega))
                clear hKC KC
                try simp only [List.getElem_toArray, List.getElem_cons_zero, List.getElem_cons_succ, Act.put, List.setIfInBounds_toArray, List.set_cons_zero, List.set_cons_succ]
                refine wpAnyH_done (by kernel_rfl) ?_ _
                go_wp2
                go_meet
                case rel =>
                  first
                  | exact ⟨w2.heap.size, ⟨_, _, _, _, H, _, L2, A', B'⟩, a', c', rfl, hid ⟨setRow_blk (hch.heap (heap_alloc_last w2 _) id), hH⟩, hid (hop.chS ((Ch.refl (fun k => k = w2.heap.size) _).setRow _ (.inl rfl)) (fun b hb hlt he => by have := hnw b hb; simp at this; omega)), hcc, hid (good_ok D U I V H K A B A' B' o L2 hH O14.out OA.out hcase), hid (hHeld), hid (((C2.out.f (by first | exact ((Ch.refl _ _).alloc _).drew | exact (Ch.refl _ _).drew.alloc _)).f hch).setRow _ (.inr C2.out.size))⟩
                  | exact ⟨w9.heap.size, ⟨_, _, _, _, H, _, L2, A', B'⟩, a', c', rfl, hid ⟨setRow_blk (heap_alloc_last w9 _), hH⟩, hid (hop.chS (((Ch.refl (fun k => k = w9.heap.size) _).alloc _).setRow _ (.inl rfl)) (fun b hb hlt he => by omega)), hcc, hid (good_ok D U I V H K A B A' B' o L2 hH O14.out OA.out hcase), hid (hHeld), hid ((((C2.out.f (Ch.refl _ _).drew).f hch).alloc _).setRow _ (.inr ((C2.out.f (Ch.refl _ _).drew).f hch).size))⟩
              exact AllReadyH.nil
            exact AllReadyH.nil
          exact AllReadyH.nil
        exact AllReadyH.nil
    case rest =>
      obtain ⟨g7, X, a', c', rfl, X7, OP, hcc, GK, W3, CC⟩ := hcut
      clear OA O14 MK XM C0 C2 W0 W1 W2 HF C1
      have hXL : X.L.length ≤ 200 := by have := GK.out.L; omega
      have hXH : X.H.length = 32 := GK.out.H
      have GB := hid (gok_back GK.out)
      have NB := hid (gok_bytes GK.out)
      obtain ⟨nb, hnb⟩ : ∃ nb, X.bytes.length = nb := ⟨_, rfl⟩
      rw [hnb] at NB
      have HNB := hid hnb
      have BY := hid (fun (w' : World) (h : OpsAt w' a' X.L.length X.L) => (show Calls Try.prog 18 #[.agg (D40 X.D X.U X.I X.V X.H X.K (.slice a' X.L.length c') X.A X.B)] w' (Fresh w' 5 1 nb (bv X.bytes)) by
        have := delta_bytes X.D X.U X.I X.V X.H X.K a' X.L.length c' X.A X.B X.L w' hXH h hXL hcc GK.out.s
        rw [show (dB X.D X.U X.I X.V X.H X.K X.L X.A X.B).length = nb from hnb] at this
        exact this))
      have nb1 : 0 < nb := by rw [← hnb]; exact gok_pos GK.out
      clear hnb
      go_upto_region 10 with (first
        | (have q_ := X7; refine wpList_load_row rfl 30 _ rfl g7 rfl 30 (D40 X.D X.U X.I X.V X.H X.K (.slice a' X.L.length c') X.A X.B) (0, 0) _ X7.out.blk Try.underlying30 rfl (by rw [D40_size hXH]; exact sz40) ?_)
        | (go_at_call 18; refine (BY.out _ OP.out).mono ?_; rintro e w1 ⟨a8, c8, rfl, ho, hc⟩; have B1 := hid ho; have C1 := hid (CC.out.f hc); have X1 := hid (X7.out.f hc); have OP1 := hid (OP.out.below hc); have W1 := hid (W3.out.f hc); clear ho hc)
        | (go_at_call 22; refine (delta_parse chkO chk_p (dcheck_any chkO chk_p) a8 nb c8 X.bytes _ B1.out.sl (by have := NB.out; omega)).mono ?_; rw [GB.out]; rintro e w2 ⟨a9, c9, rfl, hH9, hop9, hc9, hnew9, hch9⟩; have B2 := hid (B1.out.f hch9); have C2 := hid (C1.out.f hch9); have X2 := hid (X1.out.f hch9); have OP2 := hid (OP1.out.below hch9); have W2 := hid (W1.out.f hch9); have OQ2 := hid hop9; have hcc9 : X.L.length ≤ c9 := hc9; clear hch9 hop9 hc9 hnew9 X1 OP1)
        | (refine wpList_store_row rfl 30 _ _ rfl _ (X.cells a9 c9) rfl rfl 30 _ (heap_alloc_last _ _) (by rw [show (X.cells a9 c9).size = 40 from D40_size hXH]; exact sz40) (by rw [show (X.cells a9 c9).size = 40 from D40_size hXH]; rfl) (D40_one rfl) ?_; rw [World.setRow_alloc_new]; have X3 := hid (X2.out.f ((Ch.refl (fun _ => False) w2).alloc (.cells (X.cells a9 c9) 30))); have Y3 := hid (alloc_blk_new (w := w2) (.cells (X.cells a9 c9) 30) rfl))
        | (refine wpList_free8 rfl ?_; refine wpList_load_row rfl 30 _ rfl w2.heap.size rfl 30 (X.cells a9 c9) (0, 0) _ Y3.out Try.underlying30 rfl (by rw [show (X.cells a9 c9).size = 40 from D40_size hXH]; exact sz40) ?_)
        | (refine wpList_free8 rfl ?_; refine wpList_load_row rfl 30 _ rfl g7 rfl 30 (D40 X.D X.U X.I X.V X.H X.K (.slice a' X.L.length c') X.A X.B) (0, 0) _ X3.out.blk Try.underlying30 rfl (by rw [D40_size hXH]; exact sz40) ?_)
        | (go_at_call 23; refine (dsame_any X.D X.U X.I X.V X.H X.K a9 a' c9 c' X.A X.B X.L _ hXH (OQ2.out.below ((Ch.refl _ _).alloc _)) (OP2.out.below ((Ch.refl _ _).alloc _)) hcc9 hcc (by omega)).mono ?_; rintro e w4 ⟨rfl, hc⟩; have hc' := ((Ch.refl (fun _ => False) w2).alloc (.cells (X.cells a9 c9) 30)).f hc; have B4 := hid (B2.out.f hc'); have C4 := hid (C2.out.f hc'); have W4 := hid (W2.out.f hc'); clear hc hc'))
      have hnb2 := NB.out
      have SZ4 := C4.out.size
      clear BY X7 OP W3 CC B1 C1 W1 B2 C2 X2 OP2 W2 OQ2 X3 Y3 GB hXL NB hcc hcc9 hn
      have hxz : 0 + nb ≤ maxLen := by unfold maxLen; omega
      have hxz2 : (0 + nb) * 1 ≤ 140737488355328 := by omega
      go_cut [19] (fun v19 wd => ∃ (a19 : Option Addr) (c19 : Nat), v19 = .slice a19 nb c19 ∧ Hid (Own wd w4.heap.size 5 1 a19 nb c19 (bv X.bytes)) ∧ Hid (Ch (fun _ => False) w4 wd))
      case first =>
        as_aux_lemma =>
          go_wp2_with (at_builtin; refine wpList_app rfl _ _ _ _ rfl w4.heap.size 5 1 1 _ et_u8 _ 0 _ [] rfl (World.ownsRow_made w4 #[] 0 (Nat.le_refl _) (Nat.zero_le _) rfl) _ nb (bv X.bytes) rfl ((B4.out.f ((Ch.refl (fun _ => False) w4).alloc _)).sl.src Try.underlying40 (bv_one _)) hxz hxz2 (by simp) ?_; intro a19 c19 w5 hO hS hC hN; rw [List.nil_append, Nat.zero_add] at hO; have O5 := hid hO; have C5 := hid (Ch.app_new hC); clear hO hS hC hN)
          go_meet
          case rel => exact ⟨a19, c19, rfl, O5, C5⟩
      case rest =>
        obtain ⟨a19, c19, rfl, O5, C5⟩ := hcut
        have CWc := hid (C4.out.f C5.out)
        go_upto_block 0 with (fail)
        go_cut [20] (fun v20 wd => ∃ (z20 : Int) (Cs : List UInt8), v20 = .int .i64 z20 ∧ Cs.length = nb ∧ Hid (Own wd w4.heap.size 5 1 a19 nb c19 (bv Cs)) ∧ Hid (Ch (fun _ => False) w4 wd))
        case first =>
          as_aux_lemma =>
            go_wp2
            go_loopg [20] 3 (fun g v20 wr => ∃ (k : Nat) (Cs : List UInt8), k + g = 3 ∧ v20 = .int .i64 k ∧ Cs.length = nb ∧ Hid (Own wr w4.heap.size 5 1 a19 nb c19 (bv Cs)) ∧ Hid (Ch (fun _ => False) w4 wr))
            case atStart => exact ⟨0, X.bytes, by omega, rfl, HNB.out, O5, C5⟩
            case round =>
              obtain ⟨k, Cs, hkg, rfl, hcs, OC, CK⟩ := hrel
              by_cases hk : k < 3 ∧ k < n3 ∧ k < n4
              · obtain ⟨hk3, hkn3, hkn4⟩ := hk
                have hnb0 := nb1
                obtain ⟨z, hz⟩ : ∃ z, l3[k]? = some z := ⟨_, List.getElem?_eq_getElem (by have := S3.out.1; rw [iv_length] at this; omega)⟩
                obtain ⟨y, hy⟩ : ∃ y, l4[k]? = some y := ⟨_, List.getElem?_eq_getElem (by have := S4.out.1; rw [bv_length] at this; omega)⟩
                obtain ⟨j, hj⟩ : ∃ j : Nat, (j : Int) = z % (nb : Int) := ⟨(z % (nb : Int)).toNat, by have := Int.emod_nonneg z (show (nb : Int) ≠ 0 by omega); omega⟩
                have hjn : j < nb := by have := Int.emod_lt_of_pos z (show (0 : Int) < nb by omega); omega
                obtain ⟨x, hx⟩ : ∃ x, Cs[j]? = some x := ⟨_, List.getElem?_eq_getElem (by omega)⟩
                obtain ⟨b3, rfl⟩ : ∃ b, a3 = some b := by
                  cases a3 with
                  | none => have := S3.out.none_zero; omega
                  | some b => exact ⟨b, rfl⟩
                obtain ⟨b4, rfl⟩ : ∃ b, a4 = some b := by
                  cases a4 with
                  | none => have := S4.out.none_zero; omega
                  | some b => exact ⟨b, rfl⟩
                obtain ⟨gc, rfl⟩ := OC.out.some_ hnb0
                have k3 := (C4.out.f CK.out).cell (S3.out.2.2.2.2 _ rfl k _ (show (iv l3)[k]? = some (.int .i64 z) by rw [iv_get, hz]; rfl)) id
                have k4 := (C4.out.f CK.out).cell (S4.out.2.2.2.2 _ rfl k _ (show (bv l4)[k]? = some (.int .u8 (y.toNat : Int)) by unfold bv; rw [List.getElem?_map, hy]; rfl)) id
                have kc := OC.out.at_ (show (bv Cs)[j]? = some (.int .u8 (x.toNat : Int)) by unfold bv; rw [List.getElem?_map, hx]; rfl)
                have fc := OC.out.free j
                have HJ := hid hj
                have i1 : (k : Int) < 3 := by omega
                have i2 : (k : Int) < n3 := by omega
                have i3 : (k : Int) < n4 := by omega
                have i4 : (0 : Int) ≤ k := by omega
                have i5 : (0 : Int) ≤ j := by omega
                have i6 : (j : Int) < nb := by omega
                have i7 : (0 : Int) < nb := by omega
                have i8 : (nb : Int) ≤ 1000000000000 := by omega
                have eu : IntKind.u8.wrap ((x.toNat : Int) + (y.toNat : Int)) = (((u8of ((x.toNat : Int) + (y.toNat : Int))).toNat : Nat) : Int) := by rw [u8of_val, IntKind.wrap_u8]
                obtain ⟨B3, o3, rfl⟩ : ∃ B o, b3 = ⟨B, o, none⟩ := by
                  obtain ⟨B, o, sp⟩ := b3
                  have hl3 : 0 < l3.length := by have := S3.out.1; rw [iv_length] at this; omega
                  have z0 := S3.out.2.2.2.2 _ rfl 0 _ (show (iv l3)[0]? = some (.int .i64 l3[0]) by rw [iv_get, List.getElem?_eq_getElem hl3]; rfl)
                  have hs : sp = none := by simpa [Addr.add] using World.cell?_spot z0
                  exact ⟨B, o, by rw [hs]⟩
                obtain ⟨B4, o4, rfl⟩ : ∃ B o, b4 = ⟨B, o, none⟩ := by
                  obtain ⟨B, o, sp⟩ := b4
                  have hl4 : 0 < l4.length := by have := S4.out.1; rw [bv_length] at this; omega
                  have z0 := S4.out.2.2.2.2 _ rfl 0 _ (show (bv l4)[0]? = some (.int .u8 (l4[0].toNat : Int)) by unfold bv; rw [List.getElem?_map, List.getElem?_eq_getElem hl4]; rfl)
                  have hs : sp = none := by simpa [Addr.add] using World.cell?_spot z0
                  exact ⟨B, o, by rw [hs]⟩
                rw [add_eq] at k3 k4
                have hB3 : B3 ≠ gc := by
                  have h1 := World.block_lt_of_cell? w _ (S3.out.2.2.2.2 _ rfl k _ (show (iv l3)[k]? = some (.int .i64 z) by rw [iv_get, hz]; rfl))
                  rw [add_eq] at h1
                  have h2 := (OC.out.block _ rfl).1
                  dsimp only at h1 h2
                  omega
                have hB4 : B4 ≠ gc := by
                  have h1 := World.block_lt_of_cell? w _ (S4.out.2.2.2.2 _ rfl k _ (show (bv l4)[k]? = some (.int .u8 (y.toNat : Int)) by unfold bv; rw [List.getElem?_map, hy]; rfl))
                  rw [add_eq] at h1
                  have h2 := (OC.out.block _ rfl).1
                  dsimp only at h1 h2
                  omega
                have hgc : w4.heap.size ≤ gc := (OC.out.block _ rfl).1
                clear hz hy hj hx
                go_upto_region 14 with (fail)
                refine wp_region_held_drew (S := (fun w' => w'.cell? ⟨B3, o3 + k, none⟩ = some (.int .i64 z) ∧ w'.cell? ⟨B4, o4 + k, none⟩ = some (.int .u8 (y.toNat : Int)))) (by kernel_rfl) ?_ (fun hHeld => ?_)
                · exact ⟨k3, k4⟩
                refine wpAnyH_take (i := 0) (v := ?_) rfl (by kernel_rfl) (by kernel_rfl) (by kernel_rfl) (fun _ _ _ h => h) (Or.inl ⟨by rfl, ?_⟩) (by assumption) ?_
                rotate_left
                · intro W_ hW_
                  go_simp
                  try with_reducible rfl
                try simp only [List.getElem_toArray, List.getElem_cons_zero, List.getElem_cons_succ, Act.put, List.setIfInBounds_toArray, List.set_cons_zero, List.set_cons_succ]
                refine wpAnyH_take (i := 1) (v := ?_) rfl (by kernel_rfl) (by kernel_rfl) (by kernel_rfl) (fun _ _ _ h => h) (Or.inl ⟨by rfl, ?_⟩) (by assumption) ?_
                rotate_left
                · intro W_ hW_
                  go_simp
                  try with_reducible rfl
                try simp only [List.getElem_toArray, List.getElem_cons_zero, List.getElem_cons_succ, Act.put, List.setIfInBounds_toArray, List.set_cons_zero, List.set_cons_succ]
                refine wpAnyH_take (i := 2) (v := ?_) rfl (by kernel_rfl) (by kernel_rfl) (by kernel_rfl) (fun _ _ _ h => h) (Or.inl ⟨by rfl, ?_⟩) (by assumption) ?_
                rotate_left
                · intro W_ hW_
                  go_simp
                  try with_reducible rfl
                try simp only [List.getElem_toArray, List.getElem_cons_zero, List.getElem_cons_succ, Act.put, List.setIfInBounds_toArray, List.set_cons_zero, List.set_cons_succ]
                refine wpAnyH_take (i := 3) (v := ?_) rfl (by kernel_rfl) (by kernel_rfl) (by kernel_rfl) (fun _ _ _ h => h) (Or.inl ⟨by rfl, ?_⟩) (by assumption) ?_
                rotate_left
                · intro W_ hW_
                  go_simp
                  try with_reducible rfl
                try simp only [List.getElem_toArray, List.getElem_cons_zero, List.getElem_cons_succ, Act.put, List.setIfInBounds_toArray, List.set_cons_zero, List.set_cons_succ]
                refine wpAnyH_take (i := 4) (v := ?_) rfl (by kernel_rfl) (by kernel_rfl) (by kernel_rfl) (fun _ _ _ h => h) (Or.inl ⟨by rfl, ?_⟩) (by assumption) ?_
                rotate_left
                · intro W_ hW_
                  obtain ⟨r3_, r4_⟩ := hW_
                  go_simp
                  try with_reducible rfl
                try simp only [List.getElem_toArray, List.getElem_cons_zero, List.getElem_cons_succ, Act.put, List.setIfInBounds_toArray, List.set_cons_zero, List.set_cons_succ]
                refine wpAnyH_take (i := 5) (v := ?_) rfl (by kernel_rfl) (by kernel_rfl) (by kernel_rfl) (fun _ _ _ h => h) (Or.inl ⟨by rfl, ?_⟩) (by assumption) ?_
                rotate_left
                · intro W_ hW_
                  go_simp
                  try with_reducible rfl
                try simp only [List.getElem_toArray, List.getElem_cons_zero, List.getElem_cons_succ, Act.put, List.setIfInBounds_toArray, List.set_cons_zero, List.set_cons_succ]
                refine wpAnyH_take (i := 6) (v := ?_) rfl (by kernel_rfl) (by kernel_rfl) (by kernel_rfl) (fun _ _ _ h => h) (Or.inl ⟨by rfl, ?_⟩) (by assumption) ?_
                rotate_left
                · intro W_ hW_
                  go_simp
                  try with_reducible rfl
                try simp only [List.getElem_toArray, List.getElem_cons_zero, List.getElem_cons_succ, Act.put, List.setIfInBounds_toArray, List.set_cons_zero, List.set_cons_succ]
                refine wpAnyH_take (i := 10) (v := ?_) rfl (by kernel_rfl) (by kernel_rfl) (by kernel_rfl) (fun _ _ _ h => h) (Or.inl ⟨by rfl, ?_⟩) (by assumption) ?_
                rotate_left
                · intro W_ hW_
                  go_simp
                  try with_reducible rfl
                try simp only [List.getElem_toArray, List.getElem_cons_zero, List.getElem_cons_succ, Act.put, List.setIfInBounds_toArray, List.set_cons_zero, List.set_cons_succ]
                refine wpAnyH_take (i := 11) (v := ?_) rfl (by kernel_rfl) (by kernel_rfl) (by kernel_rfl) (fun _ _ _ h => h) (Or.inl ⟨by rfl, ?_⟩) (by assumption) ?_
                rotate_left
                · intro W_ hW_
                  go_simp
                  try with_reducible rfl
                try simp only [List.getElem_toArray, List.getElem_cons_zero, List.getElem_cons_succ, Act.put, List.setIfInBounds_toArray, List.set_cons_zero, List.set_cons_succ]
                refine wpAnyH_take (i := 12) (v := ?_) rfl (by kernel_rfl) (by kernel_rfl) (by kernel_rfl) (fun _ _ _ h => h) (Or.inl ⟨by rfl, ?_⟩) (by assumption) ?_
                rotate_left
                · intro W_ hW_
                  go_simp
                  try with_reducible rfl
                try simp only [List.getElem_toArray, List.getElem_cons_zero, List.getElem_cons_succ, Act.put, List.setIfInBounds_toArray, List.set_cons_zero, List.set_cons_succ]
                refine wpAnyH_take (i := 13) (v := ?_) rfl (by kernel_rfl) (by kernel_rfl) (by kernel_rfl) (fun _ _ _ h => h) (Or.inl ⟨by rfl, ?_⟩) (by assumption) ?_
                rotate_left
                · intro W_ hW_
                  obtain ⟨r3_, r4_⟩ := hW_
                  go_simp
                  try with_reducible rfl
                try simp only [List.getElem_toArray, List.getElem_cons_zero, List.getElem_cons_succ, Act.put, List.setIfInBounds_toArray, List.set_cons_zero, List.set_cons_succ]
                refine wpAnyH_ready (rs := [7]) (by kernel_rfl) (by simp) ?_
                refine AllReadyH.cons rfl (fun KC hKC => ?_) ?_
                · rw [if_pos (by rfl)]
                  simp only [List.getElem_toArray, List.getElem_cons_zero, List.getElem_cons_succ]
                  go_simp
                  refine (within8_any z nb _ i7 i8).mono ?_
                  rintro e w2 ⟨rfl, rfl⟩
                  try simp only [Ending.then, Go.Ending]
                  rw [← HJ.out]
                  refine hKC.out _ _ ?_ (fun hHeld => ?_)
                  · exact hHeld
                  clear hKC KC
                  try simp only [List.getElem_toArray, List.getElem_cons_zero, List.getElem_cons_succ, Act.put, List.setIfInBounds_toArray, List.set_cons_zero, List.set_cons_succ]
                  refine wpAnyH_take (i := 8) (v := ?_) rfl (by kernel_rfl) (by kernel_rfl) (by kernel_rfl) (fun _ _ _ h => h) (Or.inl ⟨by rfl, ?_⟩) (by assumption) ?_
                  rotate_left
                  · intro W_ hW_
                    go_simp
                    try with_reducible rfl
                  try simp only [List.getElem_toArray, List.getElem_cons_zero, List.getElem_cons_succ, Act.put, List.setIfInBounds_toArray, List.set_cons_zero, List.set_cons_succ]
                  refine wpAnyH_ready (rs := [9]) (by kernel_rfl) (by simp) ?_
                  refine AllReadyH.cons rfl (fun KC hKC => ?_) ?_
                  · rw [if_pos (by rfl)]
                    simp only [List.getElem_toArray, List.getElem_cons_zero, List.getElem_cons_succ]
                    go_simp
                    refine hKC.out _ _ ?_ (fun hHeld => ?_)
                    · exact hHeld
                    clear hKC KC
                    try simp only [List.getElem_toArray, List.getElem_cons_zero, List.getElem_cons_succ, Act.put, List.setIfInBounds_toArray, List.set_cons_zero, List.set_cons_succ]
                    refine wpAnyH_take (i := 14) (v := ?_) rfl (by kernel_rfl) (by kernel_rfl) (by kernel_rfl) (fun _ _ _ h => h) (Or.inl ⟨by rfl, ?_⟩) (by assumption) ?_
                    rotate_left
                    · intro W_ hW_
                      go_simp
                      try with_reducible rfl
                    try simp only [List.getElem_toArray, List.getElem_cons_zero, List.getElem_cons_succ, Act.put, List.setIfInBounds_toArray, List.set_cons_zero, List.set_cons_succ]
                    refine wpAnyH_take (i := 15) (v := ?_) rfl (by kernel_rfl) (by kernel_rfl) (by kernel_rfl) (fun _ _ _ h => h) (Or.inl ⟨by rfl, ?_⟩) (by assumption) ?_
                    rotate_left
                    · intro W_ hW_
                      go_simp
                      try with_reducible rfl
                    try simp only [List.getElem_toArray, List.getElem_cons_zero, List.getElem_cons_succ, Act.put, List.setIfInBounds_toArray, List.set_cons_zero, List.set_cons_succ]
                    refine wpAnyH_ready (rs := [16]) (by kernel_rfl) (by simp) ?_
                    refine AllReadyH.cons rfl (fun KC hKC => ?_) ?_
                    · rw [if_pos (by rfl)]
                      simp only [List.getElem_toArray, List.getElem_cons_zero, List.getElem_cons_succ]
                      go_simp
                      refine hKC.out _ _ ?_ (fun hHeld => ?_)
                      · first | exact ⟨(((Ch.refl (fun i => i = gc) wr).set (.inl rfl)).drew).cell k3 hB3, (((Ch.refl (fun i => i = gc) wr).set (.inl rfl)).drew).cell k4 hB4⟩ | exact ⟨(((Ch.refl (fun i => i = gc) wr).drew).set (.inl rfl)).cell k3 hB3, (((Ch.refl (fun i => i = gc) wr).drew).set (.inl rfl)).cell k4 hB4⟩
                      clear hKC KC
                      try simp only [List.getElem_toArray, List.getElem_cons_zero, List.getElem_cons_succ, Act.put, List.setIfInBounds_toArray, List.set_cons_zero, List.set_cons_succ]
                      refine wpAnyH_done (by kernel_rfl) ?_ _
                      go_wp2
                      go_roundg (2 - k)
                      case measure => omega
                      case rel =>
                        refine ⟨k + 1, Cs.set j (u8of ((x.toNat : Int) + (y.toNat : Int))), by omega, by go_num, by rw [List.length_set]; exact hcs, hid ?_, hid ?_⟩
                        · have e : bv (Cs.set j (u8of ((x.toNat : Int) + (y.toNat : Int)))) = (bv Cs).set j (.int .u8 (((u8of ((x.toNat : Int) + (y.toNat : Int))).toNat : Nat) : Int)) := by unfold bv; rw [List.map_set]
                          rw [e]
                          first
                          | exact (Own.set OC.out j _).f (Ch.refl _ _).drew
                          | exact Own.set (OC.out.f (Ch.refl _ _).drew) j _
                          | exact Own.set OC.out j _
                        · first
                          | exact (CK.out.set (.inr hgc)).drew
                          | exact CK.out.drew.set (.inr hgc)
                    exact AllReadyH.nil
                  exact AllReadyH.nil
                exact AllReadyH.nil
              · have hx : (k < n3 ∧ k < n4 ∧ k = 3) ∨ (k < n3 ∧ ¬ k < n4) ∨ ¬ k < n3 := by omega
                rcases hx with ⟨g1, g2, g3⟩ | ⟨g1, g2⟩ | g1
                · have i1 : (k : Int) < n3 := by omega
                  have i2 : (k : Int) < n4 := by omega
                  subst g3
                  go_wp2
                  go_meet
                  case rel => exact ⟨_, Cs, rfl, hcs, OC, CK⟩
                · have i1 : (k : Int) < n3 := by omega
                  have i2 : ¬ (k : Int) < n4 := by omega
                  go_wp2
                  go_meet
                  case rel => exact ⟨_, Cs, rfl, hcs, OC, CK⟩
                · have i1 : ¬ (k : Int) < n3 := by omega
                  go_wp2
                  go_meet
                  case rel => exact ⟨_, Cs, rfl, hcs, OC, CK⟩
        case rest =>
          obtain ⟨z20, Cs, rfl, hcs, OC, CK⟩ := hcut
          clear O5 C5 CWc S3 S4
          have hcap : (nb : Int) ≤ c19 := by have := OC.out.sl.2.1; omega
          have I8 := hid (show (nb : Int) + 1 ≤ 1000000000000 by omega)
          have hlt_ : (nb : Int) < 1000000 := by omega
          obtain ⟨r, er⟩ : ∃ r, Int.tmod x5 2 = r := ⟨_, rfl⟩
          obtain ⟨d, ed⟩ : ∃ d, Int.tdiv x5 2 = d := ⟨_, rfl⟩
          go_upto_if 98 with (fail)
          clear er
          go_cut [19] (fun v19 wd => ∃ (m19 : Nat) (Cs' : List UInt8), v19 = .slice a19 m19 c19 ∧ m19 ≤ nb ∧ Hid (Sl wd 1 a19 m19 c19 (bv Cs')) ∧ Hid (Ch (fun _ => False) w4 wd))
          case first =>
            as_aux_lemma =>
              by_cases hq : r = 1
              · have q1 : (r == 1) = true := beq_iff_eq.2 hq
                clear hq
                refine wp_cond (t := true) ((show _ = Value.bool (r == 1) from rfl).trans (by rw [q1])) ?_
                rw [if_pos rfl]
                clear q1 ed
                go_wp2_with (go_at_call 10; refine (within8n _ nb _ I8.out).mono ?_; rintro e w2 ⟨j, hjn, rfl, rfl⟩; have j0 : (0 : Int) ≤ j := Int.natCast_nonneg j; have j1 : (j : Int) ≤ c19 := Int.le_trans (Int.ofNat_le.2 hjn) hcap; have HJ := hid hjn; clear hjn)
                go_meet
                case rel =>
                  have e : bv (Cs.take j) = (bv Cs).take j := by unfold bv; rw [List.map_take]
                  exact ⟨j, Cs.take j, rfl, HJ.out, hid (by rw [e]; exact OC.out.sl.take j HJ.out), CK⟩
              · have q1 : (r == 1) = false := beq_eq_false_iff_ne.2 hq
                clear hq hcap
                refine wp_cond (t := false) ((show _ = Value.bool (r == 1) from rfl).trans (by rw [q1])) ?_
                refine wp_skip ?_
                simp only [Exit.then]
                refine (show ∀ (a' : Go.Act) (w' : World), Met _ a' w' → _ from by assumption) _ _ ?_
                go_meet
                case rel => exact ⟨nb, Cs, rfl, Nat.le_refl _, hid OC.out.sl, CK⟩
          case rest =>
            obtain ⟨m19, Cs', rfl, hm19, SC, CC⟩ := hcut
            clear OC CK
            have WS := hid (W4.out.f CC.out)
            have BS := hid (B4.out.f CC.out)
            have CW := hid (C4.out.f CC.out)
            have R6 := hid (S6.out.below CW.out.below0)
            have n6s : n6 ≤ 200 := by omega
            have y1 : 0 + nb ≤ maxLen := by unfold maxLen; omega
            have y2 : (0 + nb) * 1 ≤ 140737488355328 := by omega
            have y3 : 0 + nb + n6 ≤ maxLen := by unfold maxLen; omega
            have y4 : (0 + nb + n6) * 1 ≤ 140737488355328 := by omega
            clear W4 B4 C4 S6
            go_upto_region 17 with (fail)
            go_cut [21] (fun v21 wd => ∃ gr : Nat, v21 = .slice (some ⟨gr, 0, none⟩) 4 4 ∧ Hid (Rows4 wd gr) ∧ Hid (Ch (fun _ => False) w wd))
            case first =>
              as_aux_lemma =>
                refine wp_region_held_drew (S := (fun w' => DAt w' w.heap.size D U I V H K (.slice a n c) A B)) (by kernel_rfl) ?_ (fun hHeld => ?_)
                · exact WS.out.f (Ch.refl _ _).drew
                refine wpAnyH_take (i := 0) (v := ?_) rfl (by kernel_rfl) (by kernel_rfl) (by kernel_rfl) (fun _ _ _ h => h) (Or.inl ⟨by rfl, ?_⟩) (by assumption) ?_
                rotate_left
                · intro W_ hW_
                  go_simp
                  try with_reducible rfl
                try simp only [List.getElem_toArray, List.getElem_cons_zero, List.getElem_cons_succ, Act.put, List.setIfInBounds_toArray, List.set_cons_zero, List.set_cons_succ]
                refine wpAnyH_take (i := 2) (v := ?_) rfl (by kernel_rfl) (by kernel_rfl) (by kernel_rfl) (fun _ _ _ h => h) (Or.inl ⟨by rfl, ?_⟩) (by assumption) ?_
                rotate_left
                · intro W_ hW_
                  go_simp
                  try with_reducible rfl
                try simp only [List.getElem_toArray, List.getElem_cons_zero, List.getElem_cons_succ, Act.put, List.setIfInBounds_toArray, List.set_cons_zero, List.set_cons_succ]
                refine wpAnyH_take (i := 4) (v := ?_) rfl (by kernel_rfl) (by kernel_rfl) (by kernel_rfl) (fun _ _ _ h => h) (Or.inl ⟨by rfl, ?_⟩) (by assumption) ?_
                rotate_left
                · intro W_ hW_
                  go_simp
                  try with_reducible rfl
                try simp only [List.getElem_toArray, List.getElem_cons_zero, List.getElem_cons_succ, Act.put, List.setIfInBounds_toArray, List.set_cons_zero, List.set_cons_succ]
                refine wpAnyH_take (i := 6) (v := ?_) rfl (by kernel_rfl) (by kernel_rfl) (by kernel_rfl) (fun _ _ _ h => h) (Or.inl ⟨by rfl, ?_⟩) (by assumption) ?_
                rotate_left
                · intro W_ hW_
                  go_simp
                  try with_reducible rfl
                try simp only [List.getElem_toArray, List.getElem_cons_zero, List.getElem_cons_succ, Act.put, List.setIfInBounds_toArray, List.set_cons_zero, List.set_cons_succ]
                refine wpAnyH_take (i := 7) (v := _) rfl (by kernel_rfl) (by kernel_rfl) (by kernel_rfl) (fun _ _ _ h => h) (yieldsIf_load_mid (by rfl) _ _ rfl w.heap.size 0 rfl (D40 D U I V H K (.slice a n c) A B).toList _ (fun w_ hw_ => hw_.rows) Try.underlying30 rfl (by rw [Array.length_toList, D40_size hH]; exact sz40)) (by assumption) ?_
                simp only [Array.toArray_toList]
                try simp only [List.getElem_toArray, List.getElem_cons_zero, List.getElem_cons_succ, Act.put, List.setIfInBounds_toArray, List.set_cons_zero, List.set_cons_succ]
                refine wpAnyH_ready (rs := [1]) (by kernel_rfl) (by simp) ?_
                refine AllReadyH.cons rfl (fun KC hKC => ?_) ?_
                · rw [if_pos (by rfl)]
                  simp only [List.getElem_toArray, List.getElem_cons_zero, List.getElem_cons_succ]
                  go_simp
                  refine hKC.out _ _ ?_ (fun hHeld => ?_)
                  · first | exact WS.out.f (((Ch.refl _ _).alloc _).drew) | exact WS.out.f ((Ch.refl _ _).drew.alloc _)
                  clear hKC KC
                  try simp only [List.getElem_toArray, List.getElem_cons_zero, List.getElem_cons_succ, Act.put, List.setIfInBounds_toArray, List.set_cons_zero, List.set_cons_succ]
                  refine wpAnyH_ready (rs := [3]) (by kernel_rfl) (by simp) ?_
                  refine AllReadyH.cons rfl (fun KC hKC => ?_) ?_
                  · have W0_ := Own.f (show Own (wc.alloc (.cells #[] 5)) wc.heap.size 5 1 (some ⟨wc.heap.size, 0, none⟩) 0 0 [] from World.ownsRow_made wc #[] 0 (Nat.le_refl _) (Nat.zero_le _) rfl) ((Ch.refl (fun _ => False) _).drew)
                    refine step_app2 rfl _ _ _ _ rfl wc.heap.size 5 1 1 _ et_u8 _ 0 _ [] rfl W0_ _ nb (bv X.bytes) rfl ((BS.out.f (((Ch.refl _ _).alloc _).drew)).sl.src Try.underlying40 (bv_one _)) y1 y2 (by simp) ?_
                    intro a31 c31 w31 hO hC hN
                    rw [List.nil_append] at hO
                    have O31 := hid hO
                    have D31 := hid (Ch.app_own ((Ch.refl (fun _ => False) wc).alloc _).drew W0_ (Nat.le_refl _) hC)
                    clear hO hC hN W0_
                    refine hKC.out _ _ ?_ (fun hHeld => ?_)
                    · exact WS.out.f D31.out
                    clear hKC KC
                    try simp only [List.getElem_toArray, List.getElem_cons_zero, List.getElem_cons_succ, Act.put, List.setIfInBounds_toArray, List.set_cons_zero, List.set_cons_succ]
                    refine wpAnyH_ready (rs := [5]) (by kernel_rfl) (by simp) ?_
                    refine AllReadyH.cons rfl (fun KC hKC => ?_) ?_
                    · refine step_app2 rfl _ _ _ _ rfl wc.heap.size 5 1 1 _ et_u8 a31 (0 + nb) c31 _ rfl O31.out _ n6 (bv l6) rfl ((R6.out.below D31.out.below0).src Try.underlying40 (bv_one _)) y3 y4 D31.out.size ?_
                      intro a32 c32 w32 hO hC hN
                      rw [← bv_append] at hO
                      have O32 := hid hO
                      have D32 := hid (Ch.app_own D31.out O31.out (Nat.le_refl _) hC)
                      clear hO hC hN O31 D31
                      refine hKC.out _ _ ?_ (fun hHeld => ?_)
                      · exact WS.out.f D32.out
                      clear hKC KC
                      try simp only [List.getElem_toArray, List.getElem_cons_zero, List.getElem_cons_succ, Act.put, List.setIfInBounds_toArray, List.set_cons_zero, List.set_cons_succ]
                      refine wpAnyH_ready (rs := [8]) (by kernel_rfl) (by simp) ?_
                      refine AllReadyH.cons rfl (fun KC hKC => ?_) ?_
                      · rw [if_pos (by rfl)]
                        simp only [List.getElem_toArray, List.getElem_cons_zero, List.getElem_cons_succ]
                        go_simp
                        refine (xdelta_bytes D U I V H K a n c A B L _ hH (HO.out.below (CW.out.f D32.out)) (by omega) hcS LS0.out).mono ?_
                        rintro e w33 ⟨a33, c33, rfl, ho33, hc33⟩
                        have O33 := hid ho33
                        have D33 := hid (D32.out.f hc33)
                        have P32 := hid (O32.out.f hc33)
                        clear ho33 hc33
                        try simp only [Ending.then, Go.Ending]
                        refine hKC.out _ _ ?_ (fun hHeld => ?_)
                        · exact WS.out.f D33.out
                        clear hKC KC
                        try simp only [List.getElem_toArray, List.getElem_cons_zero, List.getElem_cons_succ, Act.put, List.setIfInBounds_toArray, List.set_cons_zero, List.set_cons_succ]
                        refine wpAnyH_ready (rs := [9]) (by kernel_rfl) (by simp) ?_
                        refine AllReadyH.cons rfl (fun KC hKC => ?_) ?_
                        · rw [if_pos (by rfl)]
                          simp only [List.getElem_toArray, List.getElem_cons_zero, List.getElem_cons_succ]
                          go_simp
                          refine hKC.out _ _ ?_ (fun hHeld => ?_)
                          · first | exact WS.out.f (D33.out.alloc _) | exact WS.out.f (D33.out.alloc _).drew
                          clear hKC KC
                          try simp only [List.getElem_toArray, List.getElem_cons_zero, List.getElem_cons_succ, Act.put, List.setIfInBounds_toArray, List.set_cons_zero, List.set_cons_succ]
                          refine wpAnyH_take (i := 10) (v := ?_) rfl (by kernel_rfl) (by kernel_rfl) (by kernel_rfl) (fun _ _ _ h => h) (Or.inl ⟨by rfl, ?_⟩) (by assumption) ?_
                          rotate_left
                          · intro W_ hW_
                            go_simp
                            try with_reducible rfl
                          try simp only [List.getElem_toArray, List.getElem_cons_zero, List.getElem_cons_succ, Act.put, List.setIfInBounds_toArray, List.set_cons_zero, List.set_cons_succ]
                          refine wpAnyH_done (by kernel_rfl) ?_ _
                          go_wp2
                          go_meet
                          case rel =>
                            have q0 := SC.out.below D33.out.below0
                            have q1 := P32.out.sl
                            rw [Nat.zero_add] at q1
                            have q2 := R6.out.below D33.out.below0
                            have q3 := O33.out.sl
                            exact ⟨w33.heap.size, rfl, hid (rows4_new _ q0 q1 q2 q3 (by omega) (by omega) (by omega) (dB_len D U I V H K L A B hH)), hid ((CW.out.f D33.out).alloc _)⟩
                        exact AllReadyH.nil
                      exact AllReadyH.nil
                    exact AllReadyH.nil
                  exact AllReadyH.nil
                exact AllReadyH.nil
            case rest =>
              obtain ⟨gr, rfl, RW, CC⟩ := hcut
              clear WS BS CW R6 SC LS0 y1 y2 y3 y4
              go_upto_block 2 with (fail)
              go_cut [22] (fun v22 wd => Hid (Ch (fun _ => False) w wd))
              case first =>
                as_aux_lemma =>
                  go_wp2
                  go_loopg [22] 4 (fun g v22 wr => ∃ k : Nat, k + g = 4 ∧ v22 = .int .i64 k ∧ Hid (Rows4 wr gr) ∧ Hid (Ch (fun _ => False) w wr))
                  case atStart => exact ⟨0, by omega, rfl, RW, CC⟩
                  case round =>
                    obtain ⟨k, hkg, rfl, RK, CK⟩ := hrel
                    clear RW CC
                    by_cases hk : k < 4
                    · obtain ⟨a0, n0, c0, B0, rc, rs, rn⟩ := RK.out k hk
                      have RC := hid rc
                      have RS := hid rs
                      obtain ⟨x, E, hpx⟩ : ∃ x E, parseD chkO B0 = (x, E) := ⟨_, _, rfl⟩
                      obtain ⟨l9, e9, hpo⟩ : ∃ l e, parse chkO B0 = (l, e) := ⟨_, _, rfl⟩
                      have PX := hid hpx
                      have PO := hid hpo
                      have z1 : 0 + n0 ≤ maxLen := by unfold maxLen; omega
                      have z2 : (0 + n0) * 1 ≤ 140737488355328 := by omega
                      have xL : x.L.length ≤ 40 := by have := parseD_len B0; rw [hpx] at this; exact this
                      have xH : x.H.length = 32 := parseD_H hpx
                      have lL : l9.length ≤ 40 := by have := parse_len chkO B0; rw [hpo] at this; exact this
                      have PB := hid (show E = 0 → B0 = x.bytes from fun h0 => by subst h0; exact (parseD_inv hpx).1)
                      have PS := hid (show E = 0 → ∀ y ∈ x.L, y.s.length ≤ 1000 from fun h0 => by subst h0; exact chkO_short (parseD_inv hpx).2.1)
                      have k0 : (0 : Int) ≤ k := by omega
                      have k4 : (k : Int) < 4 := by omega
                      clear rc rs hpx hpo
                      go_upto_if 118 with (fail)
                      refine wp_cond_true rfl ?_
                      refine wp_skip ?_
                      simp only [Exit.then]
                      go_upto_region 21 with (fail)
                      go_cut [23, 24] (fun v23 v24 wd => ∃ g23 : Nat, v23 = .pointer (some ⟨g23, 0, none⟩) ∧ v24 = .int .i64 E ∧ Hid (XAt wd g23 x) ∧ Hid (Ch (fun _ => False) wr wd))
                      case first =>
                        as_aux_lemma =>
                          have A0 := hid ((Ch.refl (fun _ => False) wr).alloc (.cells #[] 5))
                          have rc1 := A0.out.cell RC.out id
                          go_wp2_with (first
                            | (at_builtin; refine wpList_app rfl _ _ _ _ rfl wr.heap.size 5 1 1 _ et_u8 _ 0 _ [] rfl (World.ownsRow_made wr #[] 0 (Nat.le_refl _) (Nat.zero_le _) rfl) _ n0 (bv B0) rfl ((RS.out.below A0.out.below0).src Try.underlying40 (bv_one _)) z1 z2 (by simp) ?_; intro a1 c1 w1 hO hS hC hN; rw [List.nil_append, Nat.zero_add] at hO; have O1 := hid hO; have C1 := hid (Ch.app_new hC); clear hO hS hC hN)
                            | (go_at_call 22; refine (delta_parse chkO chk_p (dcheck_any chkO chk_p) a1 n0 c1 B0 _ O1.out.sl rn).mono ?_; rw [PX.out]; rintro e w2 ⟨a9, c9, rfl, hH9, hop9, hc9, hnew9, hch9⟩; have C2 := hid (C1.out.f hch9); have OQ2 := hid hop9; have HC9 := hid hc9; clear hch9 hop9 hc9 hnew9 hH9)
                            | (refine wpList_store_row rfl 30 _ _ rfl _ (x.cells a9 c9) rfl rfl 30 _ (heap_alloc_last _ _) (by rw [show (x.cells a9 c9).size = 40 from D40_size xH]; exact sz40) (by rw [show (x.cells a9 c9).size = 40 from D40_size xH]; rfl) (D40_one rfl) ?_; rw [World.setRow_alloc_new]))
                          go_meet
                          case rel => exact ⟨w2.heap.size, rfl, rfl, hid ⟨a9, c9, alloc_blk_new _ rfl, OQ2.out.below ((Ch.refl _ _).alloc _), HC9.out⟩, hid (C2.out.alloc _)⟩
                      case rest =>
                        obtain ⟨g23, rfl, rfl, X1, Q1⟩ := hcut
                        go_upto_region 22 with (fail)
                        go_cut [25, 26] (fun v25 v26 wd => ∃ g25 : Nat, v25 = .pointer (some ⟨g25, 0, none⟩) ∧ v26 = .int .i64 E ∧ Hid (XAt wd g25 x) ∧ Hid (XAt wd g23 x) ∧ Hid (Ch (fun _ => False) wr wd))
                        case first =>
                          as_aux_lemma =>
                            have rc1 := Q1.out.cell RC.out id
                            go_wp2_with (first
                              | (go_at_call 25; refine (xdelta_parse chkO chk_x (xcheck_any chkO chk_x) a0 n0 c0 B0 _ (RS.out.below Q1.out.below0) rn).mono ?_; rw [PX.out]; rintro e w2 ⟨a9, c9, rfl, hH9, hop9, hc9, hnew9, hch9⟩; have Y1 := hid (X1.out.f hch9); have C2 := hid (Q1.out.f hch9); have OQ2 := hid hop9; have HC9 := hid hc9; clear hch9 hop9 hc9 hnew9 hH9)
                              | (refine wpList_store_row rfl 30 _ _ rfl _ (x.cells a9 c9) rfl rfl 30 _ (heap_alloc_last _ _) (by rw [show (x.cells a9 c9).size = 40 from D40_size xH]; exact sz40) (by rw [show (x.cells a9 c9).size = 40 from D40_size xH]; rfl) (D40_one rfl) ?_; rw [World.setRow_alloc_new]))
                            go_meet
                            case rel => exact ⟨w2.heap.size, rfl, rfl, hid ⟨a9, c9, alloc_blk_new _ rfl, OQ2.out.below ((Ch.refl _ _).alloc _), HC9.out⟩, hid (Y1.out.f ((Ch.refl _ _).alloc _)), hid (C2.out.alloc _)⟩
                        case rest =>
                          obtain ⟨g25, rfl, rfl, Y2, X2, Q2⟩ := hcut
                          clear X1 Q1
                          go_upto_region 23 with (fail)
                          go_cut [27, 28] (fun v27 v28 wd => Hid (OAt wd v27 l9) ∧ v28 = .int .i64 e9 ∧ Hid (Ch (fun _ => False) wc wd))
                          case first =>
                            as_aux_lemma =>
                              have A0 := hid ((Ch.refl (fun _ => False) wc).alloc (.cells #[] 5))
                              have rc1 := (Q2.out.f A0.out).cell RC.out id
                              go_wp2_with (first
                                | (at_builtin; refine wpList_app rfl _ _ _ _ rfl wc.heap.size 5 1 1 _ et_u8 _ 0 _ [] rfl (World.ownsRow_made wc #[] 0 (Nat.le_refl _) (Nat.zero_le _) rfl) _ n0 (bv B0) rfl ((RS.out.below (Q2.out.f A0.out).below0).src Try.underlying40 (bv_one _)) z1 z2 (by simp) ?_; intro a1 c1 w1 hO hS hC hN; rw [List.nil_append, Nat.zero_add] at hO; have O1 := hid hO; have C1 := hid (Ch.app_new hC); clear hO hS hC hN)
                                | (go_at_call 12; refine (dparse_any chkO chk_p a1 n0 c1 B0 _ O1.out.sl rn).mono ?_; rw [PO.out]; rintro e w2 ⟨a9, c9, rfl, ho9, hch9⟩; have C2 := hid (C1.out.f hch9); have OQ2 := hid (OpsAt.own rfl ho9); have HC9 := hid ho9.sl.2.1; clear hch9 ho9))
                              go_meet
                              case rel => exact ⟨hid ⟨a9, c9, rfl, OQ2.out, HC9.out⟩, rfl, C2⟩
                          case rest =>
                            obtain ⟨O27, rfl, Q3⟩ := hcut
                            have X3 := hid (X2.out.f Q3.out)
                            have Y3 := hid (Y2.out.f Q3.out)
                            have Q4 := hid (Q2.out.f Q3.out)
                            clear X2 Y2 Q2 Q3
                            go_upto_region 24 with (fail)
                            go_cut [29, 30] (fun v29 v30 wd => Hid (OAt wd v29 l9) ∧ v30 = .int .i64 e9 ∧ Hid (Ch (fun _ => False) wc wd))
                            case first =>
                              as_aux_lemma =>
                                have rc1 := Q4.out.cell RC.out id
                                go_wp2_with (go_at_call 20; refine (xparse_any chkO chk_x a0 n0 c0 B0 _ (RS.out.below Q4.out.below0) rn).mono ?_; rw [PO.out]; rintro e w2 ⟨a9, c9, rfl, ho9, hch9⟩; have C2 := hid hch9; have OQ2 := hid (OpsAt.own rfl ho9); have HC9 := hid ho9.sl.2.1; clear hch9 ho9)
                                go_meet
                                case rel => exact ⟨hid ⟨a9, c9, rfl, OQ2.out, HC9.out⟩, rfl, C2⟩
                            case rest =>
                              obtain ⟨O29, rfl, Q5⟩ := hcut
                              have X4 := hid (X3.out.f Q5.out)
                              have Y4 := hid (Y3.out.f Q5.out)
                              have Q6 := hid (Q4.out.f Q5.out)
                              have O28 := hid (O27.out.f Q5.out)
                              clear X3 Y3 Q4 Q5 O27
                              obtain ⟨aX, cX, bX, oX, lX⟩ := X4.out
                              obtain ⟨aY, cY, bY, oY, lY⟩ := Y4.out
                              obtain ⟨aP, cP, rfl, oP, lP⟩ := O28.out
                              obtain ⟨aQ, cQ, rfl, oQ, lQ⟩ := O29.out
                              have BX := hid bX
                              have BY := hid bY
                              have OX := hid oX
                              have OY := hid oY
                              have OP := hid oP
                              have OQ := hid oQ
                              clear bX bY oX oY oP oQ O28 O29 X4 Y4
                              go_upto_region 25 with (fail)
                              go_cut [176] (fun v176 wd => v176 = .bool false ∧ Hid (Ch (fun _ => False) wc wd))
                              case first =>
                                as_aux_lemma =>
                                  go_wp2_with (first
                                    | (refine wpList_free8 rfl ?_; refine wpList_load_row rfl 30 _ rfl g23 rfl 30 (x.cells aX cX) (0, 0) _ BX.out Try.underlying30 rfl (by rw [show (x.cells aX cX).size = 40 from D40_size xH]; exact sz40) ?_)
                                    | (refine wpList_free8 rfl ?_; refine wpList_load_row rfl 30 _ rfl g25 rfl 30 (x.cells aY cY) (0, 0) _ BY.out Try.underlying30 rfl (by rw [show (x.cells aY cY).size = 40 from D40_size xH]; exact sz40) ?_)
                                    | (go_at_call 23; refine (dsame_any x.D x.U x.I x.V x.H x.K aX aY cX cY x.A x.B x.L _ xH OX.out OY.out lX lY (by omega)).mono ?_; rintro e w4 ⟨rfl, hc⟩; have C4 := hid hc; clear hc)
                                    | (go_at_call 21; refine (same_any _ aP aQ l9.length cP cQ l9 (OP.out.below C4.out) (OQ.out.below C4.out) lP lQ (by omega)).mono ?_; rintro e w5 ⟨rfl, hc⟩; have C5 := hid (C4.out.f hc); clear hc))
                                  go_meet
                                  case rel => exact ⟨rfl, C5⟩
                              case rest =>
                                obtain ⟨rfl, Q7⟩ := hcut
                                go_upto_if 176 with (fail)
                                refine wp_cond_false rfl ?_
                                refine wp_skip ?_
                                simp only [Exit.then]
                                go_upto_region 27 with (fail)
                                go_cut [189] (fun v189 wd => v189 = .bool false ∧ Hid (Ch (fun _ => False) wc wd))
                                case first =>
                                  as_aux_lemma =>
                                    by_cases hE : E = 0
                                    · have B1 := hid (PB.out hE)
                                      have hS1 := PS.out hE
                                      subst hE
                                      have X5 := hid (show DAt wc g23 x.D x.U x.I x.V x.H x.K (.slice aX x.L.length cX) x.A x.B from ⟨Q7.out.heap BX.out id, xH⟩)
                                      have RC5 := hid ((Q6.out.f Q7.out).cell RC.out id)
                                      have RS5 := hid (RS.out.below (Q6.out.f Q7.out).below0)
                                      have SR0 := string_of RS5.out wc.drew rfl
                                      have HS1 := hid hS1
                                      have BYT := hid (fun (w' : World) (h : OpsAt w' aX x.L.length x.L) => (show Calls Try.prog 18 #[.agg (D40 x.D x.U x.I x.V x.H x.K (.slice aX x.L.length cX) x.A x.B)] w' (Fresh w' 5 1 B0.length (bv B0)) by
                                        have := delta_bytes x.D x.U x.I x.V x.H x.K aX x.L.length cX x.A x.B x.L w' xH h (by omega) lX hS1
                                        rw [show dB x.D x.U x.I x.V x.H x.K x.L x.A x.B = B0 from B1.out.symm] at this
                                        exact this))
                                      clear hS1
                                      refine wp_region_held_drew (S := (fun w' => DAt w' g23 x.D x.U x.I x.V x.H x.K (.slice aX x.L.length cX) x.A x.B ∧ w'.cell? ⟨gr, k, none⟩ = some (.slice a0 n0 c0))) (by kernel_rfl) ?_ (fun hHeld => ?_)
                                      · exact ⟨X5.out.f (Ch.refl _ _).drew, RC5.out⟩
                                      refine wpAnyH_take (i := 0) (v := ?_) rfl (by kernel_rfl) (by kernel_rfl) (by kernel_rfl) (fun _ _ _ h => h) (Or.inl ⟨by rfl, ?_⟩) (by assumption) ?_
                                      rotate_left
                                      · intro W_ hW_
                                        go_simp
                                        try with_reducible rfl
                                      try simp only [List.getElem_toArray, List.getElem_cons_zero, List.getElem_cons_succ, Act.put, List.setIfInBounds_toArray, List.set_cons_zero, List.set_cons_succ]
                                      refine wpAnyH_take (i := 1) (v := ?_) rfl (by kernel_rfl) (by kernel_rfl) (by kernel_rfl) (fun _ _ _ h => h) (Or.inl ⟨by rfl, ?_⟩) (by assumption) ?_
                                      rotate_left
                                      · intro W_ hW_
                                        go_simp
                                        try with_reducible rfl
                                      try simp only [List.getElem_toArray, List.getElem_cons_zero, List.getElem_cons_succ, Act.put, List.setIfInBounds_toArray, List.set_cons_zero, List.set_cons_succ]
                                      refine wpAnyH_take (i := 2) (v := ?_) rfl (by kernel_rfl) (by kernel_rfl) (by kernel_rfl) (fun _ _ _ h => h) (Or.inl ⟨by rfl, ?_⟩) (by assumption) ?_
                                      rotate_left
                                      · intro W_ hW_
                                        go_simp
                                        try with_reducible rfl
                                      try simp only [List.getElem_toArray, List.getElem_cons_zero, List.getElem_cons_succ, Act.put, List.setIfInBounds_toArray, List.set_cons_zero, List.set_cons_succ]
                                      refine wpAnyH_take (i := 3) (v := _) rfl (by kernel_rfl) (by kernel_rfl) (by kernel_rfl) (fun _ _ _ h => h) (yieldsIf_load_mid (by rfl) _ _ rfl g23 0 rfl (D40 x.D x.U x.I x.V x.H x.K (.slice aX x.L.length cX) x.A x.B).toList _ (fun w_ hw_ => hw_.1.rows) Try.underlying30 rfl (by rw [Array.length_toList, D40_size xH]; exact sz40)) (by assumption) ?_
                                      simp only [Array.toArray_toList]
                                      try simp only [List.getElem_toArray, List.getElem_cons_zero, List.getElem_cons_succ, Act.put, List.setIfInBounds_toArray, List.set_cons_zero, List.set_cons_succ]
                                      refine wpAnyH_take (i := 6) (v := ?_) rfl (by kernel_rfl) (by kernel_rfl) (by kernel_rfl) (fun _ _ _ h => h) (Or.inl ⟨by rfl, ?_⟩) (by assumption) ?_
                                      rotate_left
                                      · intro W_ hW_
                                        go_simp
                                        try with_reducible rfl
                                      try simp only [List.getElem_toArray, List.getElem_cons_zero, List.getElem_cons_succ, Act.put, List.setIfInBounds_toArray, List.set_cons_zero, List.set_cons_succ]
                                      refine wpAnyH_take (i := 7) (v := ?_) rfl (by kernel_rfl) (by kernel_rfl) (by kernel_rfl) (fun _ _ _ h => h) (Or.inl ⟨by rfl, ?_⟩) (by assumption) ?_
                                      rotate_left
                                      · intro W_ hW_
                                        go_simp
                                        try with_reducible rfl
                                      try simp only [List.getElem_toArray, List.getElem_cons_zero, List.getElem_cons_succ, Act.put, List.setIfInBounds_toArray, List.set_cons_zero, List.set_cons_succ]
                                      refine wpAnyH_take (i := 8) (v := ?_) rfl (by kernel_rfl) (by kernel_rfl) (by kernel_rfl) (fun _ _ _ h => h) (Or.inl ⟨by rfl, ?_⟩) (by assumption) ?_
                                      rotate_left
                                      · intro W_ hW_
                                        go_simp
                                        try with_reducible rfl
                                      try simp only [List.getElem_toArray, List.getElem_cons_zero, List.getElem_cons_succ, Act.put, List.setIfInBounds_toArray, List.set_cons_zero, List.set_cons_succ]
                                      refine wpAnyH_take (i := 9) (v := ?_) rfl (by kernel_rfl) (by kernel_rfl) (by kernel_rfl) (fun _ _ _ h => h) (Or.inl ⟨by rfl, ?_⟩) (by assumption) ?_
                                      rotate_left
                                      · intro W_ hW_
                                        obtain ⟨_, r2_⟩ := hW_
                                        go_simp
                                        try with_reducible rfl
                                      try simp only [List.getElem_toArray, List.getElem_cons_zero, List.getElem_cons_succ, Act.put, List.setIfInBounds_toArray, List.set_cons_zero, List.set_cons_succ]
                                      refine wpAnyH_ready (rs := [4, 10]) (by kernel_rfl) (by simp) ?_
                                      refine AllReadyH.cons rfl (fun KC hKC => ?_) ?_
                                      · rw [if_pos (by rfl)]
                                        simp only [List.getElem_toArray, List.getElem_cons_zero, List.getElem_cons_succ]
                                        go_simp
                                        refine (BYT.out _ (OX.out.below (Q7.out.f (Ch.refl _ _).drew))).mono ?_
                                        rintro e w8 ⟨a8_, c8_, rfl, ho8, hc8⟩
                                        have C8 := hid hc8
                                        have SO8 := string_of ho8.sl w8 rfl
                                        have SR8 := string_of (RS5.out.below ((Ch.refl (fun _ => False) wc).drew.f hc8).below0) w8 rfl
                                        clear ho8 hc8
                                        try simp only [Ending.then, Go.Ending]
                                        refine hKC.out _ _ ?_ (fun hHeld => ?_)
                                        · exact ⟨hHeld.1.f C8.out, C8.out.cell hHeld.2 id⟩
                                        clear hKC KC
                                        try simp only [List.getElem_toArray, List.getElem_cons_zero, List.getElem_cons_succ, Act.put, List.setIfInBounds_toArray, List.set_cons_zero, List.set_cons_succ]
                                        refine wpAnyH_ready (rs := [5, 10]) (by kernel_rfl) (by simp) ?_
                                        refine AllReadyH.cons rfl (fun KC hKC => ?_) ?_
                                        · rw [if_pos (by rfl)]
                                          simp only [List.getElem_toArray, List.getElem_cons_zero, List.getElem_cons_succ]
                                          go_simp
                                          refine hKC.out _ _ ?_ (fun hHeld => ?_)
                                          · exact hHeld
                                          clear hKC KC
                                          try simp only [List.getElem_toArray, List.getElem_cons_zero, List.getElem_cons_succ, Act.put, List.setIfInBounds_toArray, List.set_cons_zero, List.set_cons_succ]
                                          refine wpAnyH_ready (rs := [10]) (by kernel_rfl) (by simp) ?_
                                          refine AllReadyH.cons rfl (fun KC hKC => ?_) ?_
                                          · rw [if_pos (by rfl)]
                                            simp only [List.getElem_toArray, List.getElem_cons_zero, List.getElem_cons_succ]
                                            go_simp
                                            refine hKC.out _ _ ?_ (fun hHeld => ?_)
                                            · exact hHeld
                                            clear hKC KC
                                            try simp only [List.getElem_toArray, List.getElem_cons_zero, List.getElem_cons_succ, Act.put, List.setIfInBounds_toArray, List.set_cons_zero, List.set_cons_succ]
                                            refine wpAnyH_take (i := 11) (v := ?_) rfl (by kernel_rfl) (by kernel_rfl) (by kernel_rfl) (fun _ _ _ h => h) (Or.inl ⟨by rfl, ?_⟩) (by assumption) ?_
                                            rotate_left
                                            · intro W_ hW_
                                              go_simp
                                              try with_reducible rfl
                                            try simp only [List.getElem_toArray, List.getElem_cons_zero, List.getElem_cons_succ, Act.put, List.setIfInBounds_toArray, List.set_cons_zero, List.set_cons_succ]
                                            refine wpAnyH_take (i := 12) (v := ?_) rfl (by kernel_rfl) (by kernel_rfl) (by kernel_rfl) (fun _ _ _ h => h) (Or.inl ⟨by rfl, ?_⟩) (by assumption) ?_
                                            rotate_left
                                            · intro W_ hW_
                                              go_simp
                                              try with_reducible rfl
                                            try simp only [List.getElem_toArray, List.getElem_cons_zero, List.getElem_cons_succ, Act.put, List.setIfInBounds_toArray, List.set_cons_zero, List.set_cons_succ]
                                            refine wpAnyH_done (by kernel_rfl) ?_ _
                                            go_wp2
                                            go_meet
                                            case rel => exact ⟨by first | rfl | simp, hid (((Ch.refl (fun _ => False) wc).drew).f C8.out)⟩
                                          exact AllReadyH.nil
                                        refine AllReadyH.cons rfl (fun KC hKC => ?_) ?_
                                        · rw [if_pos (by rfl)]
                                          simp only [List.getElem_toArray, List.getElem_cons_zero, List.getElem_cons_succ]
                                          go_simp
                                          refine hKC.out _ _ ?_ (fun hHeld => ?_)
                                          · exact hHeld
                                          clear hKC KC
                                          try simp only [List.getElem_toArray, List.getElem_cons_zero, List.getElem_cons_succ, Act.put, List.setIfInBounds_toArray, List.set_cons_zero, List.set_cons_succ]
                                          refine wpAnyH_ready (rs := [5]) (by kernel_rfl) (by simp) ?_
                                          refine AllReadyH.cons rfl (fun KC hKC => ?_) ?_
                                          · rw [if_pos (by rfl)]
                                            simp only [List.getElem_toArray, List.getElem_cons_zero, List.getElem_cons_succ]
                                            go_simp
                                            refine hKC.out _ _ ?_ (fun hHeld => ?_)
                                            · exact hHeld
                                            clear hKC KC
                                            try simp only [List.getElem_toArray, List.getElem_cons_zero, List.getElem_cons_succ, Act.put, List.setIfInBounds_toArray, List.set_cons_zero, List.set_cons_succ]
                                            refine wpAnyH_take (i := 11) (v := ?_) rfl (by kernel_rfl) (by kernel_rfl) (by kernel_rfl) (fun _ _ _ h => h) (Or.inl ⟨by rfl, ?_⟩) (by assumption) ?_
                                            rotate_left
                                            · intro W_ hW_
                                              go_simp
                                              try with_reducible rfl
                                            try simp only [List.getElem_toArray, List.getElem_cons_zero, List.getElem_cons_succ, Act.put, List.setIfInBounds_toArray, List.set_cons_zero, List.set_cons_succ]
                                            refine wpAnyH_take (i := 12) (v := ?_) rfl (by kernel_rfl) (by kernel_rfl) (by kernel_rfl) (fun _ _ _ h => h) (Or.inl ⟨by rfl, ?_⟩) (by assumption) ?_
                                            rotate_left
                                            · intro W_ hW_
                                              go_simp
                                              try with_reducible rfl
                                            try simp only [List.getElem_toArray, List.getElem_cons_zero, List.getElem_cons_succ, Act.put, List.setIfInBounds_toArray, List.set_cons_zero, List.set_cons_succ]
                                            refine wpAnyH_done (by kernel_rfl) ?_ _
                                            go_wp2
                                            go_meet
                                            case rel => exact ⟨by first | rfl | simp, hid (((Ch.refl (fun _ => False) wc).drew).f C8.out)⟩
                                          exact AllReadyH.nil
                                        exact AllReadyH.nil
                                      refine AllReadyH.cons rfl (fun KC hKC => ?_) ?_
                                      · rw [if_pos (by rfl)]
                                        simp only [List.getElem_toArray, List.getElem_cons_zero, List.getElem_cons_succ]
                                        go_simp
                                        refine hKC.out _ _ ?_ (fun hHeld => ?_)
                                        · exact hHeld
                                        clear hKC KC
                                        try simp only [List.getElem_toArray, List.getElem_cons_zero, List.getElem_cons_succ, Act.put, List.setIfInBounds_toArray, List.set_cons_zero, List.set_cons_succ]
                                        refine wpAnyH_ready (rs := [4]) (by kernel_rfl) (by simp) ?_
                                        refine AllReadyH.cons rfl (fun KC hKC => ?_) ?_
                                        · rw [if_pos (by rfl)]
                                          simp only [List.getElem_toArray, List.getElem_cons_zero, List.getElem_cons_succ]
                                          go_simp
                                          refine (BYT.out _ (OX.out.below (Q7.out.f (Ch.refl _ _).drew))).mono ?_
                                          rintro e w8 ⟨a8_, c8_, rfl, ho8, hc8⟩
                                          have C8 := hid hc8
                                          have SO8 := string_of ho8.sl w8 rfl
                                          have SR8 := string_of (RS5.out.below ((Ch.refl (fun _ => False) wc).drew.f hc8).below0) w8 rfl
                                          clear ho8 hc8
                                          try simp only [Ending.then, Go.Ending]
                                          refine hKC.out _ _ ?_ (fun hHeld => ?_)
                                          · exact ⟨hHeld.1.f C8.out, C8.out.cell hHeld.2 id⟩
                                          clear hKC KC
                                          try simp only [List.getElem_toArray, List.getElem_cons_zero, List.getElem_cons_succ, Act.put, List.setIfInBounds_toArray, List.set_cons_zero, List.set_cons_succ]
                                          refine wpAnyH_ready (rs := [5]) (by kernel_rfl) (by simp) ?_
                                          refine AllReadyH.cons rfl (fun KC hKC => ?_) ?_
                                          · rw [if_pos (by rfl)]
                                            simp only [List.getElem_toArray, List.getElem_cons_zero, List.getElem_cons_succ]
                                            go_simp
                                            refine hKC.out _ _ ?_ (fun hHeld => ?_)
                                            · exact hHeld
                                            clear hKC KC
                                            try simp only [List.getElem_toArray, List.getElem_cons_zero, List.getElem_cons_succ, Act.put, List.setIfInBounds_toArray, List.set_cons_zero, List.set_cons_succ]
                                            refine wpAnyH_take (i := 11) (v := ?_) rfl (by kernel_rfl) (by kernel_rfl) (by kernel_rfl) (fun _ _ _ h => h) (Or.inl ⟨by rfl, ?_⟩) (by assumption) ?_
                                            rotate_left
                                            · intro W_ hW_
                                              go_simp
                                              try with_reducible rfl
                                            try simp only [List.getElem_toArray, List.getElem_cons_zero, List.getElem_cons_succ, Act.put, List.setIfInBounds_toArray, List.set_cons_zero, List.set_cons_succ]
                                            refine wpAnyH_take (i := 12) (v := ?_) rfl (by kernel_rfl) (by kernel_rfl) (by kernel_rfl) (fun _ _ _ h => h) (Or.inl ⟨by rfl, ?_⟩) (by assumption) ?_
                                            rotate_left
                                            · intro W_ hW_
                                              go_simp
                                              try with_reducible rfl
                                            try simp only [List.getElem_toArray, List.getElem_cons_zero, List.getElem_cons_succ, Act.put, List.setIfInBounds_toArray, List.set_cons_zero, List.set_cons_succ]
                                            refine wpAnyH_done (by kernel_rfl) ?_ _
                                            go_wp2
                                            go_meet
                                            case rel => exact ⟨by first | rfl | simp, hid (((Ch.refl (fun _ => False) wc).drew).f C8.out)⟩
                                          exact AllReadyH.nil
                                        exact AllReadyH.nil
                                      exact AllReadyH.nil
                                    · have hE0 : (E == 0) = false := beq_eq_false_iff_ne.2 hE
                                      clear hE
                                      refine wp_region_held_drew (S := (fun _ => True)) (by kernel_rfl) ?_ (fun hHeld => ?_)
                                      · trivial
                                      refine wpAnyH_take (i := 0) (v := ?_) rfl (by kernel_rfl) (by kernel_rfl) (by kernel_rfl) (fun _ _ _ h => h) (Or.inl ⟨by rfl, ?_⟩) (by assumption) ?_
                                      rotate_left
                                      · intro W_ hW_
                                        go_simp
                                        try with_reducible rfl
                                      try simp only [List.getElem_toArray, List.getElem_cons_zero, List.getElem_cons_succ, Act.put, List.setIfInBounds_toArray, List.set_cons_zero, List.set_cons_succ]
                                      refine wpAnyH_take (i := 1) (v := ?_) rfl (by kernel_rfl) (by kernel_rfl) (by kernel_rfl) (fun _ _ _ h => h) (Or.inl ⟨by rfl, ?_⟩) (by assumption) ?_
                                      rotate_left
                                      · intro W_ hW_
                                        go_simp
                                        try with_reducible rfl
                                      try simp only [List.getElem_toArray, List.getElem_cons_zero, List.getElem_cons_succ, Act.put, List.setIfInBounds_toArray, List.set_cons_zero, List.set_cons_succ]
                                      refine wpAnyH_take (i := 2) (v := ?_) rfl (by kernel_rfl) (by kernel_rfl) (by kernel_rfl) (fun _ _ _ h => h) (Or.inl ⟨by rfl, ?_⟩) (by assumption) ?_
                                      rotate_left
                                      · intro W_ hW_
                                        go_simp
                                        try with_reducible rfl
                                      try simp only [List.getElem_toArray, List.getElem_cons_zero, List.getElem_cons_succ, Act.put, List.setIfInBounds_toArray, List.set_cons_zero, List.set_cons_succ]
                                      refine wpAnyH_take (i := 3) (v := undef) rfl (by kernel_rfl) (by kernel_rfl) (by kernel_rfl) (fun _ _ _ h => h) (Or.inr ⟨by rfl, rfl⟩) (by assumption) ?_
                                      try simp only [List.getElem_toArray, List.getElem_cons_zero, List.getElem_cons_succ, Act.put, List.setIfInBounds_toArray, List.set_cons_zero, List.set_cons_succ]
                                      refine wpAnyH_take (i := 4) (v := undef) rfl (by kernel_rfl) (by kernel_rfl) (by kernel_rfl) (fun _ _ _ h => h) (Or.inr ⟨by rfl, rfl⟩) (by assumption) ?_
                                      try simp only [List.getElem_toArray, List.getElem_cons_zero, List.getElem_cons_succ, Act.put, List.setIfInBounds_toArray, List.set_cons_zero, List.set_cons_succ]
                                      refine wpAnyH_take (i := 5) (v := undef) rfl (by kernel_rfl) (by kernel_rfl) (by kernel_rfl) (fun _ _ _ h => h) (Or.inr ⟨by rfl, rfl⟩) (by assumption) ?_
                                      try simp only [List.getElem_toArray, List.getElem_cons_zero, List.getElem_cons_succ, Act.put, List.setIfInBounds_toArray, List.set_cons_zero, List.set_cons_succ]
                                      refine wpAnyH_take (i := 6) (v := undef) rfl (by kernel_rfl) (by kernel_rfl) (by kernel_rfl) (fun _ _ _ h => h) (Or.inr ⟨by rfl, rfl⟩) (by assumption) ?_
                                      try simp only [List.getElem_toArray, List.getElem_cons_zero, List.getElem_cons_succ, Act.put, List.setIfInBounds_toArray, List.set_cons_zero, List.set_cons_succ]
                                      refine wpAnyH_take (i := 7) (v := undef) rfl (by kernel_rfl) (by kernel_rfl) (by kernel_rfl) (fun _ _ _ h => h) (Or.inr ⟨by rfl, rfl⟩) (by assumption) ?_
                                      try simp only [List.getElem_toArray, List.getElem_cons_zero, List.getElem_cons_succ, Act.put, List.setIfInBounds_toArray, List.set_cons_zero, List.set_cons_succ]
                                      refine wpAnyH_take (i := 8) (v := undef) rfl (by kernel_rfl) (by kernel_rfl) (by kernel_rfl) (fun _ _ _ h => h) (Or.inr ⟨by rfl, rfl⟩) (by assumption) ?_
                                      try simp only [List.getElem_toArray, List.getElem_cons_zero, List.getElem_cons_succ, Act.put, List.setIfInBounds_toArray, List.set_cons_zero, List.set_cons_succ]
                                      refine wpAnyH_take (i := 9) (v := undef) rfl (by kernel_rfl) (by kernel_rfl) (by kernel_rfl) (fun _ _ _ h => h) (Or.inr ⟨by rfl, rfl⟩) (by assumption) ?_
                                      try simp only [List.getElem_toArray, List.getElem_cons_zero, List.getElem_cons_succ, Act.put, List.setIfInBounds_toArray, List.set_cons_zero, List.set_cons_succ]
                                      refine wpAnyH_take (i := 10) (v := undef) rfl (by kernel_rfl) (by kernel_rfl) (by kernel_rfl) (fun _ _ _ h => h) (Or.inr ⟨by rfl, rfl⟩) (by assumption) ?_
                                      try simp only [List.getElem_toArray, List.getElem_cons_zero, List.getElem_cons_succ, Act.put, List.setIfInBounds_toArray, List.set_cons_zero, List.set_cons_succ]
                                      refine wpAnyH_take (i := 11) (v := undef) rfl (by kernel_rfl) (by kernel_rfl) (by kernel_rfl) (fun _ _ _ h => h) (Or.inr ⟨by rfl, rfl⟩) (by assumption) ?_
                                      try simp only [List.getElem_toArray, List.getElem_cons_zero, List.getElem_cons_succ, Act.put, List.setIfInBounds_toArray, List.set_cons_zero, List.set_cons_succ]
                                      refine wpAnyH_take (i := 12) (v := ?_) rfl (by kernel_rfl) (by kernel_rfl) (by kernel_rfl) (fun _ _ _ h => h) (Or.inl ⟨by rfl, ?_⟩) (by assumption) ?_
                                      rotate_left
                                      · intro W_ hW_
                                        go_simp
                                        try with_reducible rfl
                                      try simp only [List.getElem_toArray, List.getElem_cons_zero, List.getElem_cons_succ, Act.put, List.setIfInBounds_toArray, List.set_cons_zero, List.set_cons_succ]
                                      refine wpAnyH_done (by kernel_rfl) ?_ _
                                      go_wp2
                                      go_meet
                                      case rel => exact ⟨by first | rfl | simp, hid ((Ch.refl (fun _ => False) wc).drew)⟩
                                case rest =>
                                  obtain ⟨rfl, Q8⟩ := hcut
                                  go_upto_if 189 with (fail)
                                  refine wp_cond_false rfl ?_
                                  refine wp_skip ?_
                                  try simp only [Exit.then]
                                  have QF := hid (((CK.out.f Q6.out).f Q7.out).f Q8.out)
                                  have RF := hid (RK.out.f ((Q6.out.f Q7.out).f Q8.out))
                                  clear BX BY OX OY OP OQ Q6 Q7 Q8 RK CK RC RS
                                  go_wp2
                                  go_roundg (3 - k)
                                  case measure => omega
                                  case rel => exact ⟨k + 1, by omega, by go_num, RF, QF⟩
                    · obtain rfl : k = 4 := by omega
                      go_upto_if 118 with (fail)
                      refine wp_cond_false rfl ?_
                      go_wp2
                      go_meet
                      case rel => exact CK
              case rest =>
                have CE := hcut
                go_wp2
                go_ret
                exact ⟨rfl, CE.out⟩
end Cd
set_option linter.unusedVariables false
open Go.RowKit Go.Cx in
theorem DeltaReads_walk (w : World) (v0 : Value) (h0 : Cd.DArg w v0) (x1 : Int) (i1 : Go.Cx.I64 x1) (a2 : Option Addr) (n2 c2 : Nat) (l2 : List Int) (h2 : Sl w 1 a2 n2 c2 (iv l2)) (q2 : ∀ z ∈ l2, Go.Cx.I64 z) (a3 : Option Addr) (n3 c3 : Nat) (l3 : List Int) (h3 : Sl w 1 a3 n3 c3 (iv l3)) (q3 : ∀ z ∈ l3, Go.Cx.I64 z)
    (a4 : Option Addr) (n4 c4 : Nat) (l4 : List UInt8) (h4 : Sl w 1 a4 n4 c4 (bv l4)) (x5 : Int) (i5 : Go.Cx.I64 x5) (a6 : Option Addr) (n6 c6 : Nat) (l6 : List UInt8) (h6 : Sl w 1 a6 n6 c6 (bv l6)) :
    Calls Try.prog 8 #[v0, .int .i64 x1, .slice a2 n2 c2, .slice a3 n3 c3, .slice a4 n4 c4, .int .i64 x5, .slice a6 n6 c6] w fun e w' => e = .returned (.bool true) ∧ Below w.heap.size w w' := Cd.DeltaReads_walk0 w v0 h0 x1 a2 n2 c2 l2 h2 a3 n3 c3 l3 h3 a4 n4 c4 l4 h4 x5 a6 n6 c6 l6 h6
end Go.Proofs.Ytpcgamgjgfdpaaa

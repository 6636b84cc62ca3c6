/- Chapter 8: a delta, as the forty cells of its struct; delta.Bytes, walked. -/
import Derived.Test.YtpcgamgjgfdpaaaL8Q
import Derived.Deep.WholeRow
import Derived.Deep.RegionHeld3
import Derived.Deep.DeepCutAuto
import Derived.Deep.CutBlock
namespace Go.Proofs.Ytpcgamgjgfdpaaa
namespace Cd
open Go.RowKit Go.Cx
set_option linter.unusedVariables false
set_option linter.unusedSimpArgs false

/-- A delta's cells. -/
def D40 (D U I V : Int) (H : List UInt8) (K : Int) (o : Value) (A B : Int) : Array Value := (([.int .i64 D, .int .i64 U, .int .i64 I, .int .i64 V] : List Value) ++ bv H ++ ([.int .i64 K, o, .int .i64 A, .int .i64 B] : List Value)).toArray
section
variable {D U I V : Int} {H : List UInt8} {K : Int} {o : Value} {A B : Int}
theorem D40_size (h : H.length = 32) : (D40 D U I V H K o A B).size = 40 := by simp [D40, bv]; omega
theorem D40_0 : (D40 D U I V H K o A B)[0]? = some (.int .i64 D) := by simp [D40]
theorem D40_1 : (D40 D U I V H K o A B)[1]? = some (.int .i64 U) := by simp [D40]
theorem D40_2 : (D40 D U I V H K o A B)[2]? = some (.int .i64 I) := by simp [D40]
theorem D40_3 : (D40 D U I V H K o A B)[3]? = some (.int .i64 V) := by simp [D40]
theorem D40_back (h : H.length = 32) (j : Nat) : (D40 D U I V H K o A B)[36 + j]? = ([.int .i64 K, o, .int .i64 A, .int .i64 B] : List Value)[j]? := by
  unfold D40
  rw [List.getElem?_toArray, List.getElem?_append_right (by simp [bv]; omega)]
  congr 1
  simp [bv]; omega
theorem D40_36 (h : H.length = 32) : (D40 D U I V H K o A B)[36]? = some (.int .i64 K) := D40_back h 0
theorem D40_37 (h : H.length = 32) : (D40 D U I V H K o A B)[37]? = some o := D40_back h 1
theorem D40_38 (h : H.length = 32) : (D40 D U I V H K o A B)[38]? = some (.int .i64 A) := D40_back h 2
theorem D40_39 (h : H.length = 32) : (D40 D U I V H K o A B)[39]? = some (.int .i64 B) := D40_back h 3
theorem D40_h (h : H.length = 32) (j : Nat) (u : Value) (hu : (bv H)[j]? = some u) : (D40 D U I V H K o A B)[4 + j]? = some u := by
  have hj : j < (bv H).length := (List.getElem?_eq_some_iff.1 hu).1
  unfold D40
  rw [List.getElem?_toArray, List.getElem?_append_left (by simp; omega), List.getElem?_append_right (by simp)]
  rw [← hu]
  congr 1
  simp
theorem D40_one (ho : o.oneCell' = true) : (D40 D U I V H K o A B).all (·.oneCell') = true := by
  rw [← Array.all_toList, List.all_eq_true]
  intro v hv
  simp only [D40, List.mem_append, List.mem_cons, List.not_mem_nil, or_false] at hv
  rcases hv with ((rfl | rfl | rfl | rfl) | hv) | rfl | rfl | rfl | rfl
  · rfl
  · rfl
  · rfl
  · rfl
  · obtain ⟨b, _, rfl⟩ := List.mem_map.1 hv
    rfl
  · rfl
  · exact ho
  · rfl
  · rfl
end
/-- It lies in a block of its own. -/
structure DAt (w : World) (g : Nat) (D U I V : Int) (H : List UInt8) (K : Int) (o : Value) (A B : Int) : Prop where
  blk : w.heap[g]? = some (.cells (D40 D U I V H K o A B) 30 (0, 0))
  len : H.length = 32
section
variable {w w' : World} {g : Nat} {D U I V : Int} {H : List UInt8} {K : Int} {o : Value} {A B : Int}
theorem DAt.new (h : H.length = 32) : DAt (w.alloc (.cells (D40 D U I V H K o A B) 30)) w.heap.size D U I V H K o A B := ⟨alloc_blk_new _ rfl, h⟩
theorem DAt.ch {S : Nat → Prop} (h : DAt w g D U I V H K o A B) (hc : Ch S w w') (hs : ¬ S g) : DAt w' g D U I V H K o A B := ⟨hc.heap h.blk hs, h.len⟩
theorem DAt.f (h : DAt w g D U I V H K o A B) (hc : Ch (fun _ => False) w w') : DAt w' g D U I V H K o A B := h.ch hc id
theorem DAt.c0 (h : DAt w g D U I V H K o A B) : w.cell? ⟨g, 0, none⟩ = some (.int .i64 D) := (cell_blk h.blk 0).trans D40_0
theorem DAt.c1 (h : DAt w g D U I V H K o A B) : w.cell? ⟨g, 1, none⟩ = some (.int .i64 U) := (cell_blk h.blk 1).trans D40_1
theorem DAt.c2 (h : DAt w g D U I V H K o A B) : w.cell? ⟨g, 2, none⟩ = some (.int .i64 I) := (cell_blk h.blk 2).trans D40_2
theorem DAt.c3 (h : DAt w g D U I V H K o A B) : w.cell? ⟨g, 3, none⟩ = some (.int .i64 V) := (cell_blk h.blk 3).trans D40_3
theorem DAt.c36 (h : DAt w g D U I V H K o A B) : w.cell? ⟨g, 36, none⟩ = some (.int .i64 K) := (cell_blk h.blk 36).trans (D40_36 h.len)
theorem DAt.c37 (h : DAt w g D U I V H K o A B) : w.cell? ⟨g, 37, none⟩ = some o := (cell_blk h.blk 37).trans (D40_37 h.len)
theorem DAt.c38 (h : DAt w g D U I V H K o A B) : w.cell? ⟨g, 38, none⟩ = some (.int .i64 A) := (cell_blk h.blk 38).trans (D40_38 h.len)
theorem DAt.c39 (h : DAt w g D U I V H K o A B) : w.cell? ⟨g, 39, none⟩ = some (.int .i64 B) := (cell_blk h.blk 39).trans (D40_39 h.len)
theorem DAt.hash (h : DAt w g D U I V H K o A B) : Sl w 1 (some ⟨g, 4, none⟩) 32 32 (bv H) := by
  refine ⟨by simp [bv, h.len], Nat.le_refl _, by decide, fun e => by simp at e, fun b hb j u hu => ?_⟩
  cases hb
  rw [add_eq]
  exact (cell_blk h.blk (4 + j)).trans (D40_h h.len j u hu)
end
/-- A delta's bytes. -/
def dB (D U I V : Int) (H : List UInt8) (K : Int) (L : List O3) (A B : Int) : List UInt8 := [D, U, I, V].flatMap le8 ++ H ++ [u8of K] ++ txt (oB L) ++ le8 A ++ le8 B
theorem step_app2 {P : Program} {ops : Array Oper} {o : Oper} {a : Go.Act} {w : World} {K : Go.Act → World → Prop} {Q : Exit → Go.Act → World → Prop} {G : Prop} (hgd : o.guard = none) (s x : Operand) (t tx : TypeId)
    (ho : o.op = .call { callee := .builtin .append, args := #[s, x], argTypes := #[t, tx] }) (base : Nat) (e : TypeId) (size bytes : Nat) (z : Value) (E : ElemT P t e size bytes z)
    (sa : Option Addr) (n c : Nat) (xs : List Value) (hs : a.eval s = .slice sa n c) (hown : Own w base e size sa n c xs)
    (v : Value) (m : Nat) (news : List Value) (hv : a.eval x = v) (hx : Src P size tx v m news w)
    (h63 : n + m ≤ maxLen) (hbytes : (n + m) * bytes ≤ 140737488355328) (hbase : base ≤ w.heap.size)
    (h : ∀ a' c' w', Own w' base e size a' (n + m) c' (xs ++ news) → Ch (fun k => ∃ b, sa = some b ∧ b.block = k) w w' → ((a' = sa ∧ c' = c) ∨ ∀ b, a' = some b → w.heap.size ≤ b.block) → K (a.put o.dst (.slice a' (n + m) c')) w') :
    if Region.wanted o (yielded ops a.tmps) = true then Oper.wp P o a w K Q else G := by
  have hw : Region.wanted o (yielded ops a.tmps) = true := by simp [Region.wanted, hgd]
  rw [if_pos hw]
  obtain ⟨a', c', w', hr, h2, h3, h4, h5⟩ := run_app (P := P) w base t tx o.type e size bytes z E sa n c xs hown v m news hx h63 hbytes hbase
  unfold Oper.wp
  simp [execOp, ho, resolve, invoke, builtin, hs, hv, hr, Result.andThen]
  exact h _ _ _ h2 h4 h5
theorem fm4_len (D U I V : Int) (i : Nat) (h : i ≤ 4) : (([D, U, I, V].take i).flatMap le8).length = 8 * i := by
  have : ∀ l : List Int, (l.flatMap le8).length = 8 * l.length := by
    intro l
    induction l with
    | nil => rfl
    | cons c l ih => rw [List.flatMap_cons, List.length_append, ih, le8_length, List.length_cons]; omega
  rw [this, List.length_take]
  simp
  omega
theorem s3_ch {w w' : World} {G : Nat} {a b c : Value} (hc : Ch (fun _ => False) w w') (h : w.cell? ⟨G, 37, none⟩ = some a ∧ w.cell? ⟨G, 38, none⟩ = some b ∧ w.cell? ⟨G, 39, none⟩ = some c) :
    w'.cell? ⟨G, 37, none⟩ = some a ∧ w'.cell? ⟨G, 38, none⟩ = some b ∧ w'.cell? ⟨G, 39, none⟩ = some c := ⟨hc.cell h.1 id, hc.cell h.2.1 id, hc.cell h.2.2 id⟩
set_option maxRecDepth 100000 in
set_option maxHeartbeats 4000000 in
theorem delta_bytes (D U I V : Int) (H : List UInt8) (K : Int) (a : Option Addr) (n c : Nat) (A B : Int) (L : List O3) (w : World) (hH : H.length = 32) (h : OpsAt w a n L) (hn : n ≤ 200) (hc : n ≤ c) (hs : ∀ x ∈ L, x.s.length ≤ 1000) :
    Calls Try.prog 18 #[.agg (D40 D U I V H K (.slice a n c) A B)] w (Fresh w 5 1 (dB D U I V H K L A B).length (bv (dB D U I V H K L A B))) := by
  have HO := hid h
  have HS := hid hs
  have OL : (oB L).length ≤ 1000000 := by
    have h2 := oP_len L L.length hs
    rw [oP_all, h.1] at h2
    omega
  have N1 : 65 + 2 + min (oB L).length 65535 ≤ 1000000 := by omega
  have N2 : 65 + 2 + min (oB L).length 65535 + 8 ≤ 1000000 := by omega
  have K1 := hid True.intro
  have W0 := hid (DAt.new (w := w) (D := D) (U := U) (I := I) (V := V) (K := K) (o := .slice a n c) (A := A) (B := B) hH)
  have g0 := W0.out.c0
  have g1 := W0.out.c1
  have g2 := W0.out.c2
  have g3 := W0.out.c3
  clear h hs
  go_enter Try.func18, Try.ntmps18
  go_wp2
  have RB := hid (show ((w.alloc (.cells (D40 D U I V H K (.slice a n c) A B) 30)).alloc (.cells #[.int .i64 D, .int .i64 U, .int .i64 I, .int .i64 V] 3)).heap[w.heap.size + 1]? = some (.cells #[.int .i64 D, .int .i64 U, .int .i64 I, .int .i64 V] 3 (0, 0)) from alloc_blk_new _ (Array.size_push _).symm)
  go_loopg [3, 5, 18] 4 (fun g vo v5 vi wr => ∃ (i : Nat) (b : Option Addr) (cb : Nat), i + g = 4 ∧ vo = .slice b (8 * i) cb ∧ vi = .int .i64 i ∧ Hid (Own wr (w.heap.size + 2) 5 1 b (8 * i) cb (bv (([D, U, I, V].take i).flatMap le8))) ∧
    Hid (Ch (fun _ => False) ((w.alloc (.cells (D40 D U I V H K (.slice a n c) A B) 30)).alloc (.cells #[.int .i64 D, .int .i64 U, .int .i64 I, .int .i64 V] 3)) wr))
  case atStart => exact ⟨0, none, 0, by omega, rfl, rfl, hid (Own.nil _ _ _ _), hid (Ch.refl _ _)⟩
  case round =>
    obtain ⟨i, b, cb, hig, rfl, rfl, O, C⟩ := hrel
    rcases (by omega : i = 4 ∨ i = 0 ∨ i = 1 ∨ i = 2 ∨ i = 3) with rfl | rfl | rfl | rfl | rfl
    · clear g0 g1 g2 g3
      have WR := hid (((W0.out.f ((Ch.refl (fun _ => False) _).alloc (.cells #[.int .i64 D, .int .i64 U, .int .i64 I, .int .i64 V] 3))).f C.out))
      have CW := hid ((((Ch.refl (fun _ => False) w).alloc (.cells (D40 D U I V H K (.slice a n c) A B) 30)).alloc (.cells #[.int .i64 D, .int .i64 U, .int .i64 I, .int .i64 V] 3)).f C.out)
      have hsz : w.heap.size + 2 ≤ wr.heap.size := by have := C.out.size; simpa using this
      have hxz : 8 * 4 + 32 ≤ maxLen := by decide
      have hxz2 : (8 * 4 + 32) * 1 ≤ 140737488355328 := by decide
      go_upto_region 7 with (fail)
      go_region_held3 (fun w' => w'.cell? ⟨w.heap.size, 36, none⟩ = some (.int .i64 K)) (first | exact WR.out.c36 | exact C9.out.cell (by assumption) id | exact C8.out.cell (by assumption) (by rintro ⟨x, hx, he⟩; have := (O.out.block x hx).1; dsimp only at he; omega) | go_keep) (first
        | (refine step_app2 rfl _ _ _ _ rfl (w.heap.size + 2) 5 1 1 _ et_u8 b (8 * 4) cb _ rfl (O.out.f (Ch.refl _ _).drew) _ 32 (bv H) rfl ((WR.out.f (Ch.refl _ _).drew).hash.src Try.underlying40 (bv_one H)) hxz hxz2 hsz ?_; intro a8 c8 w8 ho8 hc8 hn8; have O8 := hid ho8; have C8 := hid hc8; clear ho8 hc8 hn8)
        | (go_at_call 39; refine (byte_any a8 (8 * 4 + 32) c8 (([D, U, I, V].take 4).flatMap le8 ++ H) K w8 (by have := O8.out.sl; rw [← bv_append] at this; exact this) (by omega)).mono ?_; rintro e w9 ⟨a9, c9, rfl, ho9, hc9⟩; have O9 := hid ho9; have C9 := hid hc9; clear ho9 hc9))
      have D9 := hid (((WR.out.f (Ch.refl _ _).drew).ch C8.out (by rintro ⟨x, hx, he⟩; have := (O.out.block x hx).1; omega)).f C9.out)
      have CW9 := hid ((Ch.app_own CW.out.drew (O.out.f (Ch.refl _ _).drew) (by omega) C8.out).f C9.out)
      have HO9 := hid (HO.out.below CW9.out)
      clear CW WR C8 O8 C9 hxz hxz2 hsz O C RB W0
      obtain ⟨G, hG⟩ : ∃ G, G = ([D, U, I, V].take 4).flatMap le8 ++ H ++ [u8of K] := ⟨_, rfl⟩
      have HG := hid hG
      rw [← hG] at O9
      clear hG
      go_upto_region 8 with (fail)
      refine wp_region_held_drew (S := (fun w' => w'.cell? ⟨w.heap.size, 37, none⟩ = some (.slice a n c) ∧ w'.cell? ⟨w.heap.size, 38, none⟩ = some (.int .i64 A) ∧ w'.cell? ⟨w.heap.size, 39, none⟩ = some (.int .i64 B))) (by kernel_rfl) ?_ (fun hHeld => ?_)
      · exact ⟨D9.out.c37, D9.out.c38, D9.out.c39⟩
      refine wpAnyH_take (i := 0) (v := ?_) rfl (by kernel_rfl) (by kernel_rfl) (by kernel_rfl) (fun _ _ _ h => h) (Or.inl ⟨by rfl, ?_⟩) (by assumption) ?_
      rotate_left
      · intro W_ hW_
        go_simp
        try with_reducible rfl
      try simp only [List.getElem_toArray, List.getElem_cons_zero, List.getElem_cons_succ, Act.put, List.setIfInBounds_toArray, List.set_cons_zero, List.set_cons_succ]
      refine wpAnyH_take (i := 1) (v := ?_) rfl (by kernel_rfl) (by kernel_rfl) (by kernel_rfl) (fun _ _ _ h => h) (Or.inl ⟨by rfl, ?_⟩) (by assumption) ?_
      rotate_left
      · intro W_ hW_
        go_simp
        try with_reducible rfl
      try simp only [List.getElem_toArray, List.getElem_cons_zero, List.getElem_cons_succ, Act.put, List.setIfInBounds_toArray, List.set_cons_zero, List.set_cons_succ]
      refine wpAnyH_take (i := 2) (v := ?_) rfl (by kernel_rfl) (by kernel_rfl) (by kernel_rfl) (fun _ _ _ h => h) (Or.inl ⟨by rfl, ?_⟩) (by assumption) ?_
      rotate_left
      · intro W_ hW_
        obtain ⟨y37_, y38_, y39_⟩ := hW_
        go_simp
        try with_reducible rfl
      try simp only [List.getElem_toArray, List.getElem_cons_zero, List.getElem_cons_succ, Act.put, List.setIfInBounds_toArray, List.set_cons_zero, List.set_cons_succ]
      refine wpAnyH_take (i := 6) (v := ?_) rfl (by kernel_rfl) (by kernel_rfl) (by kernel_rfl) (fun _ _ _ h => h) (Or.inl ⟨by rfl, ?_⟩) (by assumption) ?_
      rotate_left
      · intro W_ hW_
        go_simp
        try with_reducible rfl
      try simp only [List.getElem_toArray, List.getElem_cons_zero, List.getElem_cons_succ, Act.put, List.setIfInBounds_toArray, List.set_cons_zero, List.set_cons_succ]
      refine wpAnyH_take (i := 7) (v := ?_) rfl (by kernel_rfl) (by kernel_rfl) (by kernel_rfl) (fun _ _ _ h => h) (Or.inl ⟨by rfl, ?_⟩) (by assumption) ?_
      rotate_left
      · intro W_ hW_
        go_simp
        try with_reducible rfl
      try simp only [List.getElem_toArray, List.getElem_cons_zero, List.getElem_cons_succ, Act.put, List.setIfInBounds_toArray, List.set_cons_zero, List.set_cons_succ]
      refine wpAnyH_take (i := 8) (v := ?_) rfl (by kernel_rfl) (by kernel_rfl) (by kernel_rfl) (fun _ _ _ h => h) (Or.inl ⟨by rfl, ?_⟩) (by assumption) ?_
      rotate_left
      · intro W_ hW_
        obtain ⟨y37_, y38_, y39_⟩ := hW_
        go_simp
        try with_reducible rfl
      try simp only [List.getElem_toArray, List.getElem_cons_zero, List.getElem_cons_succ, Act.put, List.setIfInBounds_toArray, List.set_cons_zero, List.set_cons_succ]
      refine wpAnyH_take (i := 10) (v := ?_) rfl (by kernel_rfl) (by kernel_rfl) (by kernel_rfl) (fun _ _ _ h => h) (Or.inl ⟨by rfl, ?_⟩) (by assumption) ?_
      rotate_left
      · intro W_ hW_
        go_simp
        try with_reducible rfl
      try simp only [List.getElem_toArray, List.getElem_cons_zero, List.getElem_cons_succ, Act.put, List.setIfInBounds_toArray, List.set_cons_zero, List.set_cons_succ]
      refine wpAnyH_take (i := 11) (v := ?_) rfl (by kernel_rfl) (by kernel_rfl) (by kernel_rfl) (fun _ _ _ h => h) (Or.inl ⟨by rfl, ?_⟩) (by assumption) ?_
      rotate_left
      · intro W_ hW_
        go_simp
        try with_reducible rfl
      try simp only [List.getElem_toArray, List.getElem_cons_zero, List.getElem_cons_succ, Act.put, List.setIfInBounds_toArray, List.set_cons_zero, List.set_cons_succ]
      refine wpAnyH_take (i := 12) (v := ?_) rfl (by kernel_rfl) (by kernel_rfl) (by kernel_rfl) (fun _ _ _ h => h) (Or.inl ⟨by rfl, ?_⟩) (by assumption) ?_
      rotate_left
      · intro W_ hW_
        obtain ⟨y37_, y38_, y39_⟩ := hW_
        go_simp
        try with_reducible rfl
      try simp only [List.getElem_toArray, List.getElem_cons_zero, List.getElem_cons_succ, Act.put, List.setIfInBounds_toArray, List.set_cons_zero, List.set_cons_succ]
      refine wpAnyH_ready (rs := [3]) (by kernel_rfl) (by simp) ?_
      refine AllReadyH.cons rfl (fun KC hKC => ?_) ?_
      · rw [if_pos (by rfl)]
        simp only [List.getElem_toArray, List.getElem_cons_zero, List.getElem_cons_succ]
        go_simp
        refine (dbytes_any a n c L w9.drew (HO9.out.below (Ch.refl _ _).drew) hn hc HS.out).mono ?_
        rintro e w10 ⟨a10, c10, rfl, ho10, hc10⟩
        have SO := string_of ho10.sl w10 rfl
        have C10 := hid hc10
        have O10 := hid (O9.out.f ((Ch.refl _ _).drew.f hc10))
        clear ho10 hc10
        try simp only [Ending.then, Go.Ending]
        refine hKC.out _ _ ?_ (fun hHeld => ?_)
        · exact s3_ch C10.out hHeld
        clear hKC KC
        try simp only [List.getElem_toArray, List.getElem_cons_zero, List.getElem_cons_succ, Act.put, List.setIfInBounds_toArray, List.set_cons_zero, List.set_cons_succ]
        refine wpAnyH_ready (rs := [4]) (by kernel_rfl) (by simp) ?_
        refine AllReadyH.cons rfl (fun KC hKC => ?_) ?_
        · rw [if_pos (by rfl)]
          simp only [List.getElem_toArray, List.getElem_cons_zero, List.getElem_cons_succ]
          go_simp
          refine hKC.out _ _ ?_ (fun hHeld => ?_)
          · exact hHeld
          clear hKC KC
          try simp only [List.getElem_toArray, List.getElem_cons_zero, List.getElem_cons_succ, Act.put, List.setIfInBounds_toArray, List.set_cons_zero, List.set_cons_succ]
          refine wpAnyH_ready (rs := [5]) (by kernel_rfl) (by simp) ?_
          refine AllReadyH.cons rfl (fun KC hKC => ?_) ?_
          · rw [if_pos (by rfl)]
            simp only [List.getElem_toArray, List.getElem_cons_zero, List.getElem_cons_succ]
            go_simp
            refine (text_any a9 65 c9 G (oB L) w10 O10.out.sl (by omega) OL).mono ?_
            rintro e w11 ⟨a11, c11, rfl, ho11, hc11⟩
            have O11 := hid ho11
            have C11 := hid hc11
            clear ho11 hc11 SO
            try simp only [Ending.then, Go.Ending]
            refine hKC.out _ _ ?_ (fun hHeld => ?_)
            · exact s3_ch C11.out hHeld
            clear hKC KC
            try simp only [List.getElem_toArray, List.getElem_cons_zero, List.getElem_cons_succ, Act.put, List.setIfInBounds_toArray, List.set_cons_zero, List.set_cons_succ]
            refine wpAnyH_ready (rs := [9]) (by kernel_rfl) (by simp) ?_
            refine AllReadyH.cons rfl (fun KC hKC => ?_) ?_
            · rw [if_pos (by rfl)]
              simp only [List.getElem_toArray, List.getElem_cons_zero, List.getElem_cons_succ]
              go_simp
              refine (int_any a11 _ c11 (G ++ txt (oB L)) A w11 O11.out.sl N1).mono ?_
              rintro e w12 ⟨a12, c12, rfl, ho12, hc12⟩
              have O12 := hid ho12
              have C12 := hid hc12
              clear ho12 hc12
              try simp only [Ending.then, Go.Ending]
              refine hKC.out _ _ ?_ (fun hHeld => ?_)
              · exact s3_ch C12.out hHeld
              clear hKC KC
              try simp only [List.getElem_toArray, List.getElem_cons_zero, List.getElem_cons_succ, Act.put, List.setIfInBounds_toArray, List.set_cons_zero, List.set_cons_succ]
              refine wpAnyH_ready (rs := [13]) (by kernel_rfl) (by simp) ?_
              refine AllReadyH.cons rfl (fun KC hKC => ?_) ?_
              · rw [if_pos (by rfl)]
                simp only [List.getElem_toArray, List.getElem_cons_zero, List.getElem_cons_succ]
                go_simp
                refine (int_any a12 _ c12 (G ++ txt (oB L) ++ le8 A) B w12 O12.out.sl N2).mono ?_
                rintro e w13 ⟨a13, c13, rfl, ho13, hc13⟩
                have O13 := hid ho13
                have C13 := hid hc13
                clear ho13 hc13
                try simp only [Ending.then, Go.Ending]
                refine hKC.out _ _ ?_ (fun hHeld => ?_)
                · exact s3_ch C13.out hHeld
                clear hKC KC
                try simp only [List.getElem_toArray, List.getElem_cons_zero, List.getElem_cons_succ, Act.put, List.setIfInBounds_toArray, List.set_cons_zero, List.set_cons_succ]
                refine wpAnyH_take (i := 14) (v := ?_) rfl (by kernel_rfl) (by kernel_rfl) (by kernel_rfl) (fun _ _ _ h => h) (Or.inl ⟨by rfl, ?_⟩) (by assumption) ?_
                rotate_left
                · intro W_ hW_
                  go_simp
                  try with_reducible rfl
                try simp only [List.getElem_toArray, List.getElem_cons_zero, List.getElem_cons_succ, Act.put, List.setIfInBounds_toArray, List.set_cons_zero, List.set_cons_succ]
                refine wpAnyH_done (by kernel_rfl) ?_ _
                go_wp2
                go_ret
                have EQ : dB D U I V H K L A B = G ++ txt (oB L) ++ le8 A ++ le8 B := by rw [HG.out]; rfl
                have LEN : (dB D U I V H K L A B).length = 65 + 2 + min (oB L).length 65535 + 8 + 8 := by
                  have h4 := fm4_len D U I V 4 (Nat.le_refl _)
                  rw [EQ, HG.out]
                  simp only [List.length_append, txt_len, le8_length, List.length_singleton, h4, hH]
                  omega
                rw [LEN, EQ]
                exact ⟨a13, c13, rfl, O13.out.base_le ((((CW9.out.drew.f C10.out).f C11.out).f C12.out).size), (((CW9.out.drew.f C10.out).f C11.out).f C12.out).f C13.out⟩
              exact AllReadyH.nil
            exact AllReadyH.nil
          exact AllReadyH.nil
        exact AllReadyH.nil
      exact AllReadyH.nil
    · as_aux_lemma =>
        have q := C.out.cell (cell_blk RB.out 0) id
        dsimp at q
        go_wp2_with (go_at_call 41; refine (int_any b (8 * 0) cb (([D, U, I, V].take 0).flatMap le8) D wr O.out.sl (by omega)).mono ?_; rintro e w1 ⟨a1, c1, rfl, ho1, hc1⟩; have O1 := hid ho1; have C1 := hid hc1; clear ho1 hc1)
        go_roundg 3
        case measure => omega
        case rel =>
          refine ⟨1, a1, c1, by omega, rfl, by go_num, hid ?_, hid (C.out.f C1.out)⟩
          have hb := O1.out.base_le (base' := w.heap.size + 2) (by have := C.out.size; simpa using this)
          have e : ([D, U, I, V].take 1).flatMap le8 = ([D, U, I, V].take 0).flatMap le8 ++ le8 D := by simp
          rw [e]
          exact hb
    · as_aux_lemma =>
        have q := C.out.cell (cell_blk RB.out 1) id
        dsimp at q
        go_wp2_with (go_at_call 41; refine (int_any b (8 * 1) cb (([D, U, I, V].take 1).flatMap le8) U wr O.out.sl (by omega)).mono ?_; rintro e w1 ⟨a1, c1, rfl, ho1, hc1⟩; have O1 := hid ho1; have C1 := hid hc1; clear ho1 hc1)
        go_roundg 2
        case measure => omega
        case rel =>
          refine ⟨2, a1, c1, by omega, rfl, by go_num, hid ?_, hid (C.out.f C1.out)⟩
          have hb := O1.out.base_le (base' := w.heap.size + 2) (by have := C.out.size; simpa using this)
          have e : ([D, U, I, V].take 2).flatMap le8 = ([D, U, I, V].take 1).flatMap le8 ++ le8 U := by simp
          rw [e]
          exact hb
    · as_aux_lemma =>
        have q := C.out.cell (cell_blk RB.out 2) id
        dsimp at q
        go_wp2_with (go_at_call 41; refine (int_any b (8 * 2) cb (([D, U, I, V].take 2).flatMap le8) I wr O.out.sl (by omega)).mono ?_; rintro e w1 ⟨a1, c1, rfl, ho1, hc1⟩; have O1 := hid ho1; have C1 := hid hc1; clear ho1 hc1)
        go_roundg 1
        case measure => omega
        case rel =>
          refine ⟨3, a1, c1, by omega, rfl, by go_num, hid ?_, hid (C.out.f C1.out)⟩
          have hb := O1.out.base_le (base' := w.heap.size + 2) (by have := C.out.size; simpa using this)
          have e : ([D, U, I, V].take 3).flatMap le8 = ([D, U, I, V].take 2).flatMap le8 ++ le8 I := by simp
          rw [e]
          exact hb
    · as_aux_lemma =>
        have q := C.out.cell (cell_blk RB.out 3) id
        dsimp at q
        go_wp2_with (go_at_call 41; refine (int_any b (8 * 3) cb (([D, U, I, V].take 3).flatMap le8) V wr O.out.sl (by omega)).mono ?_; rintro e w1 ⟨a1, c1, rfl, ho1, hc1⟩; have O1 := hid ho1; have C1 := hid hc1; clear ho1 hc1)
        go_roundg 0
        case measure => omega
        case rel =>
          refine ⟨4, a1, c1, by omega, rfl, by go_num, hid ?_, hid (C.out.f C1.out)⟩
          have hb := O1.out.base_le (base' := w.heap.size + 2) (by have := C.out.size; simpa using this)
          have e : ([D, U, I, V].take 4).flatMap le8 = ([D, U, I, V].take 3).flatMap le8 ++ le8 V := by simp
          rw [e]
          exact hb
end Cd
end Go.Proofs.Ytpcgamgjgfdpaaa

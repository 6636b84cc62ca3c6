/- Chapter 8: delta.Parse; what is read is written as it stood (two texts as one). -/
import Derived.Test.YtpcgamgjgfdpaaaD8G
namespace Go.Proofs.Ytpcgamgjgfdpaaa
namespace Cd
open Go.RowKit Go.Cx Go.OpM Go.Proofs.Ytpcgamgjgfdpaaa.Q Go.Proofs.YtpcgamgjgfdpaaaW.PrintWords Go.Proofs.YtpcgamgjgfdpaaaW.PrintLast Go.Proofs.YtpcgamgjgfdpaaaW.PrintMore
set_option linter.unusedVariables false
set_option linter.unusedSimpArgs false

structure DV where
  D : Int
  U : Int
  I : Int
  V : Int
  H : List UInt8
  K : Int
  L : List O3
  A : Int
  B : Int
def DV.zero : DV := ⟨0, 0, 0, 0, List.replicate 32 0, 0, [], 0, 0⟩

def dck (chk : List O3 → Int) (x : DV) : Int :=
  if uOk x.D x.U = false ∨ ¬ (0 ≤ x.I ∧ x.I ≤ 1073741824) ∨ ¬ (0 ≤ x.V ∧ x.V ≤ 1048576) then 1
  else if x.K = 1 then (if chk x.L ≠ 0 then chk x.L else if x.A = 0 ∧ x.B = 0 then 0 else 1)
  else if x.K = 2 ∨ x.K = 3 then (if x.L.length = 0 ∧ uOk x.A x.B = true then 0 else 1)
  else 3
def rdH : Nat → List UInt8 → Int → List UInt8 × List UInt8 × Int
  | 0, l, e => ([], l, e)
  | m + 1, l, e => (u8of (rdB l e).1 :: (rdH m (rdB l e).2.1 (rdB l e).2.2).1, (rdH m (rdB l e).2.1 (rdB l e).2.2).2)
/-- The parts, one behind the other; the operation's text; what is wrong. -/
def rdAll (b : List UInt8) : DV × List UInt8 × Int :=
  match rdI b 0 with
  | (D, l1, e1) => match rdI l1 e1 with
  | (U, l2, e2) => match rdI l2 e2 with
  | (I, l3, e3) => match rdI l3 e3 with
  | (V, l4, e4) => match rdH 32 l4 e4 with
  | (H, l5, e5) => match rdB l5 e5 with
  | (K, l6, e6) => match rdT l6 e6 with
  | (T, l7, e7) => match rdI l7 e7 with
  | (A, l8, e8) => match rdI l8 e8 with
  | (B, l9, e9) => (⟨D, U, I, V, H, K, [], A, B⟩, T, endOf l9 e9)
def parseD (chk : List O3 → Int) (b : List UInt8) : DV × Int :=
  match rdAll b with
  | (x, T, E) => if E ≠ 0 then (DV.zero, E) else
    match parse chk T with
    | (L, e2) => if e2 ≠ 0 then (DV.zero, e2) else if dck chk { x with L := L } ≠ 0 then (DV.zero, dck chk { x with L := L }) else ({ x with L := L }, 0)
def DV.cells (x : DV) (a : Option Addr) (c : Nat) : Array Value := D40 x.D x.U x.I x.V x.H x.K (.slice a x.L.length c) x.A x.B
def DPost (w : World) (r : DV × Int) (e : Ending) (w' : World) : Prop :=
  ∃ a c, e = .returned (.tuple #[.agg (r.1.cells a c), .int .i64 r.2]) ∧ r.1.H.length = 32 ∧ OpsAt w' a r.1.L.length r.1.L ∧ r.1.L.length ≤ c ∧ (∀ b, a = some b → w.heap.size ≤ b.block) ∧ Ch (fun _ => False) w w'
def DChk (f : Nat) (chk : List O3 → Int) : Prop := ∀ (x : DV) (w : World) (a : Option Addr) (c : Nat), x.H.length = 32 → OpsAt w a x.L.length x.L → x.L.length ≤ c → x.L.length ≤ 300 → Calls Try.prog f #[.agg (x.cells a c)] w fun e w' => e = .returned (.int .i64 (dck chk x)) ∧ Ch (fun _ => False) w w'

theorem rdH_len : ∀ (m : Nat) (l : List UInt8) (e : Int), (rdH m l e).1.length = m
  | 0, l, e => rfl
  | m + 1, l, e => by simp only [rdH, List.length_cons, rdH_len m]
theorem D40_set36 (D U I V : Int) (H : List UInt8) (K K' : Int) (o : Value) (A B : Int) (h : H.length = 32) : (D40 D U I V H K o A B).setIfInBounds 36 (.int .i64 K') = D40 D U I V H K' o A B := by
  obtain ⟨h0, h1, h2, h3, h4, h5, h6, h7, h8, h9, h10, h11, h12, h13, h14, h15, h16, h17, h18, h19, h20, h21, h22, h23, h24, h25, h26, h27, h28, h29, h30, h31, rfl⟩ := len32 h
  rfl
theorem D40_setH (D U I V : Int) (H : List UInt8) (K : Int) (o : Value) (A B : Int) (k : Nat) (b : UInt8) (h : H.length = 32) (hk : k < 32) : (D40 D U I V H K o A B).setIfInBounds (4 + k) (.int .u8 (b.toNat : Int)) = D40 D U I V (H.set k b) K o A B := by
  unfold D40
  rw [List.setIfInBounds_toArray]
  congr 1
  rw [List.set_append_left _ _ (by simp [bv]; omega), List.set_append_right _ _ (by simp)]
  congr 2
  unfold bv
  rw [List.map_set]
  simp
/-- One more byte of the hash. -/
theorem hash_next (Hc : List UInt8) (k : Nat) (b : UInt8) (hk : Hc.length = k) (h : k < 32) : (Hc ++ List.replicate (32 - k) 0).set k b = (Hc ++ [b]) ++ List.replicate (32 - (k + 1)) 0 := by
  obtain ⟨m, hm⟩ : ∃ m, 32 - k = m + 1 := ⟨31 - k, by omega⟩
  have : 32 - (k + 1) = m := by omega
  rw [hm, this, List.replicate_succ, List.set_append_right _ _ (by omega), hk, Nat.sub_self]
  simp
theorem results_cell_tmp {P : Program} {fn : Func} {p q : Tmp} {ty : TypeId} (h : fn.results = #[.cell p ty, .tmp q]) (tmps : Array Value) (w : World) (g : Nat) (t : TypeId) (cs : Array Value) (fr : Nat × Nat) (d : TypeDesc)
    (hp : tmps.getD p undef = .pointer (some ⟨g, 0, none⟩)) (hg : w.heap[g]? = some (.cells cs t fr)) (hu : P.underlying ty = some d) (hd : (match d with | .struct _ | .array _ _ => true | _ => false) = true) (hi : (P.info? ty).map (·.size) = some cs.size) :
    (results fn tmps).run P w = .ok (.tuple #[.agg cs, tmps.getD q undef]) w := by
  have hp' : tmps[p]?.getD undef = .pointer (some ⟨g, 0, none⟩) := by simpa using hp
  simp [results, h, hp', asAddr, run_loadVar_row w g t ty cs fr d hg hu hd hi]
theorem rdT_le (l : List UInt8) (e : Int) : (rdT l e).1.length ≤ l.length := by
  unfold rdT
  split
  · split
    · split
      · simp only [List.length_take, List.length_drop]; omega
      · simp
    · simp
  · simp
theorem Rd.small {w : World} {p : Nat} {l : List UInt8} {e : Int} (h : Rd w p l e) : l.length ≤ 1000000 := by
  obtain ⟨_, _, _, _, _, _, h1, h2⟩ := h
  omega
set_option maxRecDepth 100000 in
set_option maxHeartbeats 8000000 in
theorem delta_parse (chk : List O3 → Int) (hop : Chk 28 chk) (hck : DChk 11 chk) (a : Option Addr) (n c : Nat) (b : List UInt8) (w : World) (h : Sl w 1 a n c (bv b)) (hn : n ≤ 1000000) :
    Calls Try.prog 22 #[.slice a n c] w (DPost w (parseD chk b)) := by
  have S0 := hid h
  have HOP := hid hop
  have HCK := hid hck
  clear h hop hck
  obtain ⟨D, l1, e1, h1⟩ : ∃ D l1 e1, rdI b 0 = (D, l1, e1) := ⟨_, _, _, rfl⟩
  obtain ⟨U, l2, e2, h2⟩ : ∃ U l2 e2, rdI l1 e1 = (U, l2, e2) := ⟨_, _, _, rfl⟩
  obtain ⟨I, l3, e3, h3⟩ : ∃ I l3 e3, rdI l2 e2 = (I, l3, e3) := ⟨_, _, _, rfl⟩
  obtain ⟨V, l4, e4, h4⟩ : ∃ V l4 e4, rdI l3 e3 = (V, l4, e4) := ⟨_, _, _, rfl⟩
  obtain ⟨H, l5, e5, h5⟩ : ∃ H l5 e5, rdH 32 l4 e4 = (H, l5, e5) := ⟨_, _, _, rfl⟩
  obtain ⟨K, l6, e6, h6⟩ : ∃ K l6 e6, rdB l5 e5 = (K, l6, e6) := ⟨_, _, _, rfl⟩
  obtain ⟨T, l7, e7, h7⟩ : ∃ T l7 e7, rdT l6 e6 = (T, l7, e7) := ⟨_, _, _, rfl⟩
  obtain ⟨A, l8, e8, h8⟩ : ∃ A l8 e8, rdI l7 e7 = (A, l8, e8) := ⟨_, _, _, rfl⟩
  obtain ⟨B, l9, e9, h9⟩ : ∃ B l9 e9, rdI l8 e8 = (B, l9, e9) := ⟨_, _, _, rfl⟩
  obtain ⟨E, hE⟩ : ∃ E, E = endOf l9 e9 := ⟨_, rfl⟩
  have RA := hid (show rdAll b = (⟨D, U, I, V, H, K, [], A, B⟩, T, E) by simp only [rdAll, h1, h2, h3, h4, h5, h6, h7, h8, h9, hE])
  have HL := hid (show H.length = 32 by have := rdH_len 32 l4 e4; rw [h5] at this; exact this)
  have E1 := hid h1
  have E2 := hid h2
  have E3 := hid h3
  have E4 := hid h4
  have E5 := hid h5
  have E6 := hid h6
  have E7 := hid h7
  have E8 := hid h8
  have E9 := hid h9
  have EE := hid hE
  clear h1 h2 h3 h4 h5 h6 h7 h8 h9 hE
  go_enter Try.func22, Try.ntmps22
  go_upto_region 0 with (fail)
  go_cut [2, 3] (fun v2 v3 wc => ∃ (g0 : Nat) (old : Array Value), v2 = .pointer (some ⟨g0, 0, none⟩) ∧ v3 = .int .i64 0 ∧ old.size = 40 ∧ w.heap.size ≤ g0 ∧ g0 < wc.heap.size ∧ Hid (wc.heap[g0]? = some (.cells old 30 (0, 0))) ∧ Hid (Ch (fun _ => False) w wc))
  case first =>
    go_wp2
    go_meet
    case rel => exact ⟨w.heap.size, _, rfl, rfl, by rfl, by omega, by simp, hid (alloc_blk_new _ rfl), hid ((Ch.refl _ _).alloc _)⟩
  case rest =>
    obtain ⟨g0, old, rfl, rfl, hold, hb0, hl0, O0, C0⟩ := hcut
    go_upto_region 2 with (go_at_call 29; refine (new1_any a n c b _ (S0.out.ch C0.out (fun _ _ => id)) hn).mono ?_; rintro e w1 ⟨p, rfl, hr, hp, hc⟩; have R1 := hid hr; have C1 := hid (C0.out.f hc); have PP := hid hp; have O1 := hid (hc.heap O0.out id); have PL := hid (Rd.lt hr); clear hr hp hc)
    go_cut [5] (fun v5 wd => ∃ (g5 : Nat), v5 = .pointer (some ⟨g5, 0, none⟩) ∧ Hid (p < g5) ∧ Hid (DAt wd g5 D U I V (List.replicate 32 0) 0 (.slice none 0 0) 0 0) ∧ Hid (Rd wd p l4 e4) ∧ Hid (wd.heap[g0]? = some (.cells old 30 (0, 0))) ∧ Hid (Ch (fun _ => False) w wd))
    case first =>
      go_wp2_with (first
        | (go_at_call 31; refine (pint_any p b 0 _ R1.out).mono ?_; rw [E1.out]; rintro e w2 ⟨rfl, hr, hc⟩; have R2 := hid hr; have D2 := hid hc; clear hr hc R1)
        | (go_at_call 31; refine (pint_any p l1 e1 _ R2.out).mono ?_; rw [E2.out]; rintro e w3 ⟨rfl, hr, hc⟩; have R3 := hid hr; have D3 := hid (D2.out.trans hc (fun _ _ h => h)); clear hr hc R2)
        | (go_at_call 31; refine (pint_any p l2 e2 _ R3.out).mono ?_; rw [E3.out]; rintro e w4 ⟨rfl, hr, hc⟩; have R4 := hid hr; have D4 := hid (D3.out.trans hc (fun _ _ h => h)); clear hr hc R3)
        | (go_at_call 31; refine (pint_any p l3 e3 _ R4.out).mono ?_; rw [E4.out]; rintro e w5 ⟨rfl, hr, hc⟩; have R5 := hid hr; have D5 := hid (D4.out.trans hc (fun _ _ h => h)); clear hr hc R4)
        | (refine wpList_store_row rfl 30 _ _ rfl _ (D40 D U I V (List.replicate 32 0) 0 (.slice none 0 0) 0 0) rfl (by rfl) 30 _ (heap_alloc_last _ _) (by rw [D40_size (by simp)]; exact sz40) (by rw [D40_size (by simp)]; rfl) (D40_one rfl) ?_; rw [World.setRow_alloc_new]))
      go_meet
      case rel => exact ⟨w5.heap.size, rfl, hid R5.out.lt, hid (DAt.new (by simp)), hid (R5.out.f ((Ch.refl _ _).alloc _)), hid (((Ch.refl (fun _ => False) _).alloc _).heap (D5.out.heap O1.out (by have := PP.out; omega)) id), hid ((C1.out.far1 D5.out (Nat.le_trans C0.out.size PP.out)).alloc _)⟩
    case rest =>
      obtain ⟨g5, rfl, PG, X5, RD, O5, CC⟩ := hcut
      have pw : w.heap.size ≤ p := Nat.le_trans C0.out.size PP.out
      have pg := PG.out
      have g0p : g0 < p := Nat.lt_of_lt_of_le hl0 PP.out
      have n50 : g5 ≠ g0 := by omega
      have pw5 : w.heap.size ≤ g5 := by omega
      clear O0 C0 C1 PP O1 PL PG hl0
      go_wp2
      go_loopg [6, 21] 32 (fun g v6 v21 wr => ∃ (k : Nat) (Hc l : List UInt8) (e : Int), k + g = 32 ∧ v21 = .int .i64 k ∧ Hc.length = k ∧ Hid (DAt wr g5 D U I V (Hc ++ List.replicate (32 - k) 0) 0 (.slice none 0 0) 0 0) ∧ Hid (Rd wr p l e) ∧ Hid (wr.heap[g0]? = some (.cells old 30 (0, 0))) ∧ Hid (Ch (fun _ => False) w wr) ∧ Hid ((H, l5, e5) = (Hc ++ (rdH g l e).1, (rdH g l e).2)))
      case atStart => exact ⟨0, [], l4, e4, by omega, rfl, rfl, X5, RD, O5, CC, hid E5.out.symm⟩
      case round =>
        obtain ⟨k, Hc, l, e, hkg, rfl, hk, X, R, O, C, RE⟩ := hrel
        clear X5 RD O5 CC
        by_cases hlt : k < 32
        · obtain ⟨g, rfl⟩ : ∃ g, gk = g + 1 := ⟨gk - 1, by omega⟩
          obtain ⟨v, l', e', hv⟩ : ∃ v l' e', rdB l e = (v, l', e') := ⟨_, _, _, rfl⟩
          have HV := hid hv
          have RE2 := hid (show (H, l5, e5) = (Hc ++ [u8of v] ++ (rdH g l' e').1, (rdH g l' e').2) by rw [RE.out]; simp [rdH, hv])
          have ev : IntKind.u8.wrap v = (((u8of v).toNat : Nat) : Int) := by rw [u8of_val, IntKind.wrap_u8]
          have HK := hid hk
          have hlti : (k : Int) < 32 := by omega
          have i0 : (0 : Int) ≤ k := by omega
          have LX := X.out.len
          have c4 := (cell_blk X.out.blk (4 + k)).trans (D40_h LX k (.int .u8 0) (by unfold bv; rw [List.getElem?_map, List.getElem?_append_right (by omega), HK.out, Nat.sub_self, List.getElem?_replicate, if_pos (by omega)]; rfl))
          have C4 := hid c4
          clear hv hk RE c4
          go_wp2_with (go_at_call 30; refine (pbyte_any p l e _ R.out).mono ?_; rw [HV.out]; rintro e_ w2 ⟨rfl, hr, hc⟩; have R2 := hid hr; have X2 := hid (X.out.ch hc (by omega)); have O2 := hid (hc.heap O.out (by omega)); have C2 := hid (C.out.far1 hc pw); have c4 := hc.cell C4.out (show ¬ g5 = p by omega); have f4 := frozen_blk X2.out.blk (4 + k); clear hr hc)
          go_roundg g
          case measure => omega
          case rel =>
            refine ⟨k + 1, Hc ++ [u8of v], l', e', by omega, by go_num, by rw [List.length_append, HK.out]; rfl, hid ⟨(set_blk X2.out.blk (4 + k) _).trans ?_, ?_⟩, hid (R2.out.past ((Ch.refl (fun i => i = g5) _).set (.inl rfl)) (fun i hi he => by omega)), hid (set_blk_ne O2.out _ _ n50), hid (C2.out.set (.inr pw5)), RE2⟩
            · rw [D40_setH _ _ _ _ _ _ _ _ _ _ _ LX hlt, hash_next Hc k _ HK.out hlt]
            · simp [HK.out]; omega
        · obtain rfl : k = 32 := by omega
          obtain rfl : gk = 0 := by omega
          have RE2 := RE.out
          simp only [rdH, List.append_nil, Prod.mk.injEq] at RE2
          obtain ⟨rfl, rfl, rfl⟩ := RE2
          rw [Nat.sub_self, List.replicate_zero, List.append_nil] at X
          clear RE hk hkg hlt E1 E2 E3 E4 E5
          go_upto_region 8 with (fail)
          go_cut [] (fun wd => Hid (DAt wd g5 D U I V H K (.slice none 0 0) 0 0) ∧ Hid (Rd wd p l6 e6) ∧ Hid (wd.heap[g0]? = some (.cells old 30 (0, 0))) ∧ Hid (Ch (fun _ => False) w wd))
          case first =>
            go_wp2_with (go_at_call 30; refine (pbyte_any p _ _ _ R.out).mono ?_; rw [E6.out]; rintro e_ w2 ⟨rfl, hr, hc⟩; have R2 := hid hr; have X2 := hid (X.out.ch hc (by omega)); have O2 := hid (hc.heap O.out (by omega)); have C2 := hid (C.out.far1 hc pw); have c36 := X2.out.c36; have f36 := frozen_blk X2.out.blk 36; clear hr hc)
            go_meet
            case rel => exact ⟨hid ⟨(set_blk X2.out.blk 36 _).trans (by rw [D40_set36 _ _ _ _ _ _ _ _ _ _ HL.out]), HL.out⟩, hid (R2.out.past ((Ch.refl (fun i => i = g5) _).set (.inl rfl)) (fun i hi he => by omega)), hid (set_blk_ne O2.out _ _ n50), hid (C2.out.set (.inr pw5))⟩
          case rest =>
            obtain ⟨X6, R6, O6, C6⟩ := hcut
            clear X R O C
            have T6 := hid (show T.length ≤ 1000000 by have := rdT_le l6 e6; rw [E7.out] at this; dsimp only at this; have := R6.out.small; omega)
            go_upto_region 10 with (go_at_call 32; refine (ptext_any p _ _ _ R6.out).mono ?_; rw [E7.out]; rintro e_ w7 ⟨rfl, hr, hc⟩; have R7 := hid hr; have X7 := hid (X6.out.ch hc (by omega)); have O7 := hid (hc.heap O6.out (by omega)); have C7 := hid (C6.out.far1 hc pw); clear hr hc)
            go_cut [] (fun wd => Hid (DAt wd g5 D U I V H K (.slice none 0 0) A B) ∧ Hid (Rd wd p l9 e9) ∧ Hid (wd.heap[g0]? = some (.cells old 30 (0, 0))) ∧ Hid (Ch (fun _ => False) w wd))
            case first =>
              go_wp2_with (first
                | (go_at_call 31; refine (pint_any p l7 e7 _ R7.out).mono ?_; rw [E8.out]; rintro e w8 ⟨rfl, hr, hc⟩; have R8 := hid hr; have X8 := hid (X7.out.ch hc (by omega)); have O8 := hid (hc.heap O7.out (by omega)); have C8 := hid (C7.out.far1 hc pw); clear hr hc R7)
                | (go_at_call 31; refine (pint_any p l8 e8 _ R8.out).mono ?_; rw [E9.out]; rintro e w9 ⟨rfl, hr, hc⟩; have R9 := hid hr; have X9 := hid (X8.out.ch hc (by omega)); have O9 := hid (hc.heap O8.out (by omega)); have C9 := hid (C8.out.far1 hc pw); have c38 := X9.out.c38; have c39 := X9.out.c39; have f38 := frozen_blk X9.out.blk 38; have f39 := frozen_blk X9.out.blk 39; clear hr hc))
              go_meet
              case rel => exact ⟨hid ⟨(set_blk (set_blk X9.out.blk 38 _) 39 _).trans (by rw [D40_set38 _ _ _ _ _ _ _ _ _ _ HL.out, D40_set39 _ _ _ _ _ _ _ _ _ _ HL.out]), HL.out⟩, hid (R9.out.past (((Ch.refl (fun i => i = g5) _).set (.inl rfl)).set (.inl rfl)) (fun i hi he => by omega)), hid (set_blk_ne (set_blk_ne O9.out _ _ n50) _ _ n50), hid ((C9.out.set (.inr pw5)).set (.inr pw5))⟩
            case rest =>
              obtain ⟨X5, RD, O5, CC⟩ := hcut
              clear X6 R6 O6 C6 X7 O7 C7 R7 E6 E7 E8 E9
              have TB := to_bytes T
              have hT := T6.out
              by_cases hE : E = 0
              · obtain ⟨L, e10, hp⟩ : ∃ L e10, parse chk T = (L, e10) := ⟨_, _, rfl⟩
                have PA := hid hp
                have L40 : L.length ≤ 40 := by have := parse_len chk T; rw [hp] at this; exact this
                clear hp
                subst hE
                by_cases h10 : e10 = 0
                · subst h10
                  obtain ⟨r, hr⟩ : ∃ r, dck chk ⟨D, U, I, V, H, K, L, A, B⟩ = r := ⟨_, rfl⟩
                  have DK := hr
                  by_cases hr0 : r = 0
                  · subst hr0
                    have PR := hid (show parseD chk b = (⟨D, U, I, V, H, K, L, A, B⟩, 0) by simp [parseD, RA.out, PA.out, hr])
                    clear hr
                    go_wp2_with (first
                      | (go_at_call 34; refine (end_any p _ _ _ RD.out).mono ?_; rw [← EE.out]; rintro e w8 ⟨rfl, rfl⟩)
                      | (go_at_call 12; refine (dparse_any chk HOP.out _ _ _ T _ (Sl.bytesWorld wc 5 T (by unfold maxLen; omega)) (by omega)).mono ?_; rw [show PPost _ (parse chk T) = PPost _ (L, 0) from by rw [PA.out]]; rintro e w9 ⟨a9, c9, rfl, ho9, hc9⟩; have hc9' := (Ch.bytesWorld wc 5 (str T)).f hc9; have O9 := hid (hc9'.heap O5.out id); have X9 := hid (X5.out.f hc9'); have C9 := hid (CC.out.f hc9'); have Q9 := hid (OpsAt.own rfl ho9); have N9 := hid (fun x hx => Nat.le_trans (Ch.bytesWorld wc 5 (str T)).size (ho9.block x hx).1); have hcc9 := ho9.sl.2.1; have c37 := X9.out.c37; have f37 := frozen_blk X9.out.blk 37; clear hc9 hc9' ho9)
                      | (refine wpList_load_row rfl 30 _ rfl g5 rfl 30 (D40 D U I V H K (.slice a9 L.length c9) A B) (0, 0) _ ((set_blk X9.out.blk 37 _).trans (by rw [D40_set37 _ _ _ _ _ _ _ _ _ _ HL.out])) Try.underlying30 rfl (by rw [D40_size HL.out]; exact sz40) ?_)
                      | (go_at_call 11; refine (HCK.out ⟨D, U, I, V, H, K, L, A, B⟩ _ a9 c9 HL.out (Q9.out.chS ((Ch.refl (fun k => k = g5) _).set (.inl rfl)) (fun b hb _ he => absurd (show b.block = g5 from he) (by have h1_ := N9.out b hb; have h2_ := lt_of_block X5.out.blk; omega))) hcc9 (show L.length ≤ 300 by omega)).mono ?_; rw [DK]; rintro e w10 ⟨rfl, hc10⟩; have O10 := hid (hc10.heap (set_blk_ne O9.out 37 _ n50) id); have X10 := hid (show DAt w10 g5 D U I V H K (.slice a9 L.length c9) A B from ⟨hc10.heap ((set_blk X9.out.blk 37 _).trans (by rw [D40_set37 _ _ _ _ _ _ _ _ _ _ HL.out])) id, HL.out⟩); have C10 := hid ((C9.out.set (.inr pw5)).f hc10); have Q10 := hid ((Q9.out.chS ((Ch.refl (fun k => k = g5) _).set (.inl rfl)) (fun b hb _ he => absurd (show b.block = g5 from he) (by have h1_ := N9.out b hb; have h2_ := lt_of_block X5.out.blk; omega))).below hc10); clear hc10)
                      | (refine wpList_load_row rfl 30 _ rfl g5 rfl 30 (D40 D U I V H K (.slice a9 L.length c9) A B) (0, 0) _ X10.out.blk Try.underlying30 rfl (by rw [D40_size HL.out]; exact sz40) ?_)
                      | (refine wpList_store_row rfl 30 _ _ rfl g0 (D40 D U I V H K (.slice a9 L.length c9) A B) rfl rfl 30 _ O10.out (by rw [D40_size HL.out]; exact sz40) (by rw [D40_size HL.out]; exact hold) (D40_one rfl) ?_))
                    refine bodyPost_ret (results_cell_tmp rfl _ _ g0 30 (D40 D U I V H K (.slice a9 L.length c9) A B) (0, 0) _ rfl (setRow_blk O10.out) Try.underlying30 rfl (by rw [D40_size HL.out]; exact sz40)) rfl ?_
                    rw [PR.out]
                    exact ⟨a9, c9, rfl, HL.out, Q10.out.chS ((Ch.refl (fun k => k = g0) _).setRow _ (.inl rfl)) (fun b hb _ he => absurd (show b.block = g0 from he) (by have h1_ := N9.out b hb; have h2_ := lt_of_block O5.out; omega)), hcc9, (fun b hb => Nat.le_trans CC.out.size (N9.out b hb)), C10.out.setRow _ (.inr hb0)⟩
                  · have rb : (r == 0) = false := beq_eq_false_iff_ne.2 hr0
                    have PR := hid (show parseD chk b = (DV.zero, r) by simp [parseD, RA.out, PA.out, hr, hr0])
                    clear hr hr0
                    go_wp2_with (first
                      | (go_at_call 34; refine (end_any p _ _ _ RD.out).mono ?_; rw [← EE.out]; rintro e w8 ⟨rfl, rfl⟩)
                      | (go_at_call 12; refine (dparse_any chk HOP.out _ _ _ T _ (Sl.bytesWorld wc 5 T (by unfold maxLen; omega)) (by omega)).mono ?_; rw [show PPost _ (parse chk T) = PPost _ (L, 0) from by rw [PA.out]]; rintro e w9 ⟨a9, c9, rfl, ho9, hc9⟩; have hc9' := (Ch.bytesWorld wc 5 (str T)).f hc9; have O9 := hid (hc9'.heap O5.out id); have X9 := hid (X5.out.f hc9'); have C9 := hid (CC.out.f hc9'); have Q9 := hid (OpsAt.own rfl ho9); have N9 := hid (fun x hx => Nat.le_trans (Ch.bytesWorld wc 5 (str T)).size (ho9.block x hx).1); have hcc9 := ho9.sl.2.1; have c37 := X9.out.c37; have f37 := frozen_blk X9.out.blk 37; clear hc9 hc9' ho9)
                      | (refine wpList_load_row rfl 30 _ rfl g5 rfl 30 (D40 D U I V H K (.slice a9 L.length c9) A B) (0, 0) _ ((set_blk X9.out.blk 37 _).trans (by rw [D40_set37 _ _ _ _ _ _ _ _ _ _ HL.out])) Try.underlying30 rfl (by rw [D40_size HL.out]; exact sz40) ?_)
                      | (go_at_call 11; refine (HCK.out ⟨D, U, I, V, H, K, L, A, B⟩ _ a9 c9 HL.out (Q9.out.chS ((Ch.refl (fun k => k = g5) _).set (.inl rfl)) (fun b hb _ he => absurd (show b.block = g5 from he) (by have h1_ := N9.out b hb; have h2_ := lt_of_block X5.out.blk; omega))) hcc9 (show L.length ≤ 300 by omega)).mono ?_; rw [DK]; rintro e w10 ⟨rfl, hc10⟩; have O10 := hid (hc10.heap (set_blk_ne O9.out 37 _ n50) id); have X10 := hid (show DAt w10 g5 D U I V H K (.slice a9 L.length c9) A B from ⟨hc10.heap ((set_blk X9.out.blk 37 _).trans (by rw [D40_set37 _ _ _ _ _ _ _ _ _ _ HL.out])) id, HL.out⟩); have C10 := hid ((C9.out.set (.inr pw5)).f hc10); have Q10 := hid ((Q9.out.chS ((Ch.refl (fun k => k = g5) _).set (.inl rfl)) (fun b hb _ he => absurd (show b.block = g5 from he) (by have h1_ := N9.out b hb; have h2_ := lt_of_block X5.out.blk; omega))).below hc10); clear hc10)
                      | (refine wpList_store_row rfl 30 _ _ rfl g0 (D40 0 0 0 0 (List.replicate 32 0) 0 (.slice none 0 0) 0 0) rfl (by rfl) 30 _ O10.out (by rw [D40_size (by simp)]; exact sz40) (by rw [D40_size (by simp)]; exact hold) (D40_one rfl) ?_))
                    refine bodyPost_ret (results_cell_tmp rfl _ _ g0 30 (D40 0 0 0 0 (List.replicate 32 0) 0 (.slice none 0 0) 0 0) (0, 0) _ rfl (setRow_blk O10.out) Try.underlying30 rfl (by rw [D40_size (by simp)]; exact sz40)) rfl ?_
                    rw [PR.out]
                    exact ⟨none, 0, rfl, by simp [DV.zero], ⟨rfl, fun h => absurd h (Nat.lt_irrefl _), fun b hb => by cases hb⟩, Nat.le_refl _, (fun b hb => by cases hb), (C10.out).setRow _ (.inr hb0)⟩
                · have rb : (e10 == 0) = false := beq_eq_false_iff_ne.2 h10
                  have PR := hid (show parseD chk b = (DV.zero, e10) by simp [parseD, RA.out, PA.out, h10])
                  clear h10
                  go_wp2_with (first
                    | (go_at_call 34; refine (end_any p _ _ _ RD.out).mono ?_; rw [← EE.out]; rintro e w8 ⟨rfl, rfl⟩)
                    | (go_at_call 12; refine (dparse_any chk HOP.out _ _ _ T _ (Sl.bytesWorld wc 5 T (by unfold maxLen; omega)) (by omega)).mono ?_; rw [show PPost _ (parse chk T) = PPost _ (L, e10) from by rw [PA.out]]; rintro e w9 ⟨a9, c9, rfl, ho9, hc9⟩; have hc9' := (Ch.bytesWorld wc 5 (str T)).f hc9; have O9 := hid (hc9'.heap O5.out id); have X9 := hid (X5.out.f hc9'); have C9 := hid (CC.out.f hc9'); have Q9 := hid (OpsAt.own rfl ho9); have N9 := hid (fun x hx => Nat.le_trans (Ch.bytesWorld wc 5 (str T)).size (ho9.block x hx).1); have hcc9 := ho9.sl.2.1; have c37 := X9.out.c37; have f37 := frozen_blk X9.out.blk 37; clear hc9 hc9' ho9)
                    | (refine wpList_store_row rfl 30 _ _ rfl g0 (D40 0 0 0 0 (List.replicate 32 0) 0 (.slice none 0 0) 0 0) rfl (by rfl) 30 _ (set_blk_ne O9.out 37 _ n50) (by rw [D40_size (by simp)]; exact sz40) (by rw [D40_size (by simp)]; exact hold) (D40_one rfl) ?_))
                  refine bodyPost_ret (results_cell_tmp rfl _ _ g0 30 (D40 0 0 0 0 (List.replicate 32 0) 0 (.slice none 0 0) 0 0) (0, 0) _ rfl (setRow_blk (set_blk_ne O9.out 37 _ n50)) Try.underlying30 rfl (by rw [D40_size (by simp)]; exact sz40)) rfl ?_
                  rw [PR.out]
                  exact ⟨none, 0, rfl, by simp [DV.zero], ⟨rfl, fun h => absurd h (Nat.lt_irrefl _), fun b hb => by cases hb⟩, Nat.le_refl _, (fun b hb => by cases hb), ((C9.out.set (.inr pw5))).setRow _ (.inr hb0)⟩
              · have rb : (E == 0) = false := beq_eq_false_iff_ne.2 hE
                have PR := hid (show parseD chk b = (DV.zero, E) by simp [parseD, RA.out, hE])
                clear hE
                go_wp2_with (first
                  | (go_at_call 34; refine (end_any p _ _ _ RD.out).mono ?_; rw [← EE.out]; rintro e w8 ⟨rfl, rfl⟩)
                  | (refine wpList_store_row rfl 30 _ _ rfl g0 (D40 0 0 0 0 (List.replicate 32 0) 0 (.slice none 0 0) 0 0) rfl (by rfl) 30 _ O5.out (by rw [D40_size (by simp)]; exact sz40) (by rw [D40_size (by simp)]; exact hold) (D40_one rfl) ?_))
                refine bodyPost_ret (results_cell_tmp rfl _ _ g0 30 (D40 0 0 0 0 (List.replicate 32 0) 0 (.slice none 0 0) 0 0) (0, 0) _ rfl (setRow_blk O5.out) Try.underlying30 rfl (by rw [D40_size (by simp)]; exact sz40)) rfl ?_
                rw [PR.out]
                exact ⟨none, 0, rfl, by simp [DV.zero], ⟨rfl, fun h => absurd h (Nat.lt_irrefl _), fun b hb => by cases hb⟩, Nat.le_refl _, (fun b hb => by cases hb), (CC.out).setRow _ (.inr hb0)⟩
end Cd
end Go.Proofs.Ytpcgamgjgfdpaaa

namespace Go.Proofs.Ytpcgamgjgfdpaaa
namespace Cd
open Go.RowKit Go.Cx Go.OpM Go.Proofs.Ytpcgamgjgfdpaaa.Q
set_option linter.unusedVariables false
set_option linter.unusedSimpArgs false

theorem leNum_inj : ∀ (a b : List UInt8), a.length = b.length → leNum a = leNum b → a = b
  | [], [], _, _ => rfl
  | x :: a, y :: b, hl, h => by
    simp only [leNum] at h
    have hx := x.toNat_lt
    have hy := y.toNat_lt
    have h1 : x.toNat = y.toNat := by omega
    have h2 : leNum a = leNum b := by omega
    rw [leNum_inj a b (by simpa using hl) h2, UInt8.toNat_inj.1 h1]
theorem leNum_small (a : List UInt8) : leNum a < 256 ^ a.length := by
  induction a with
  | nil => simp [leNum]
  | cons x a ih =>
    have hx := x.toNat_lt
    simp only [leNum, List.length_cons, Nat.pow_succ]
    omega
theorem le8_read (x : List UInt8) (h : x.length = 8) : le8 (wrap64 (leNum x : Nat)) = x := by
  refine leNum_inj _ _ (by rw [le8_length, h]) ?_
  have hs := leNum_small x
  rw [h] at hs
  have e8 : (256 : Nat) ^ 8 = 18446744073709551616 := by decide
  rw [e8] at hs
  unfold le8
  rw [leNum_upto]
  have : (2 : Nat) ^ (8 * 8) = 18446744073709551616 := by decide
  rw [this]
  generalize leNum x = m at hs
  unfold wrap64
  omega
theorem u8of_byte (b : UInt8) : u8of (b.toNat : Nat) = b := by
  have h := u8of_val (b.toNat : Nat)
  have hb := b.toNat_lt
  exact UInt8.toNat_inj.1 (by omega)
theorem rdI_inv {l l' : List UInt8} {e v : Int} (h : rdI l e = (v, l', 0)) : e = 0 ∧ l = le8 v ++ l' := by
  unfold rdI at h
  by_cases he : e = 0
  · rw [if_pos he] at h
    by_cases h8 : 8 ≤ l.length
    · rw [if_pos h8] at h
      simp only [Prod.mk.injEq] at h
      obtain ⟨h1, h2, _⟩ := h
      refine ⟨he, ?_⟩
      rw [← h1, ← h2, le8_read _ (by rw [List.length_take]; omega), List.take_append_drop]
    · rw [if_neg h8] at h
      simp at h
  · rw [if_neg he] at h
    simp only [Prod.mk.injEq] at h
    exact absurd h.2.2 he
theorem rdB_inv {l l' : List UInt8} {e v : Int} (h : rdB l e = (v, l', 0)) : e = 0 ∧ l = [u8of v] ++ l' := by
  unfold rdB at h
  by_cases he : e = 0
  · rw [if_pos he] at h
    cases l with
    | nil => simp at h
    | cons b t =>
      simp only [Prod.mk.injEq] at h
      obtain ⟨h1, h2, _⟩ := h
      refine ⟨he, ?_⟩
      rw [← h1, ← h2, u8of_byte]
      rfl
  · rw [if_neg he] at h
    simp only [Prod.mk.injEq] at h
    exact absurd h.2.2 he
theorem rdT_inv {l l' s : List UInt8} {e : Int} (h : rdT l e = (s, l', 0)) : e = 0 ∧ l = txt s ++ l' := by
  unfold rdT at h
  by_cases he : e = 0
  · rw [if_pos he] at h
    by_cases h2 : 2 ≤ l.length
    · rw [if_pos h2] at h
      by_cases hk : leNum (l.take 2) ≤ (l.drop 2).length
      · rw [if_pos hk] at h
        simp only [Prod.mk.injEq] at h
        obtain ⟨h3, h4, _⟩ := h
        refine ⟨he, ?_⟩
        match l, h2 with
        | b0 :: b1 :: r, _ =>
          have ek : leNum ((b0 :: b1 :: r).take 2) = b0.toNat + 256 * b1.toNat := by simp [leNum]
          have er2 : (b0 :: b1 :: r).drop 2 = r := rfl
          rw [ek, er2] at h3 h4 hk
          have hb0 := b0.toNat_lt
          have hb1 := b1.toNat_lt
          have hsl : s.length = b0.toNat + 256 * b1.toNat := by rw [← h3, List.length_take]; omega
          have hm : min s.length 65535 = s.length := by omega
          have e0 : u8of (s.length : Nat) = b0 := by
            have := u8of_val (s.length : Nat)
            exact UInt8.toNat_inj.1 (by omega)
          have e1 : u8of ((s.length : Nat) / 256 : Int) = b1 := by
            have := u8of_val ((s.length : Nat) / 256 : Int)
            exact UInt8.toNat_inj.1 (by omega)
          unfold txt
          rw [hm, e0, e1, List.take_of_length_le (by omega)]
          have : r = s ++ l' := by rw [← h3, ← h4, List.take_append_drop]
          rw [this]
          rfl
      · rw [if_neg hk] at h
        simp at h
    · rw [if_neg h2] at h
      simp at h
  · rw [if_neg he] at h
    simp only [Prod.mk.injEq] at h
    exact absurd h.2.2 he
theorem rdH_inv : ∀ (m : Nat) {l l' H : List UInt8} {e : Int}, rdH m l e = (H, l', 0) → e = 0 ∧ l = H ++ l'
  | 0, l, l', H, e, h => by
    simp only [rdH, Prod.mk.injEq] at h
    obtain ⟨rfl, rfl, rfl⟩ := h
    exact ⟨rfl, rfl⟩
  | m + 1, l, l', H, e, h => by
    obtain ⟨v, l1, e1, h1⟩ : ∃ v l1 e1, rdB l e = (v, l1, e1) := ⟨_, _, _, rfl⟩
    obtain ⟨H2, l2, e2, h2⟩ : ∃ H2 l2 e2, rdH m l1 e1 = (H2, l2, e2) := ⟨_, _, _, rfl⟩
    simp only [rdH, h1, h2, Prod.mk.injEq] at h
    obtain ⟨rfl, rfl, rfl⟩ := h
    obtain ⟨rfl, rfl⟩ := rdH_inv m h2
    obtain ⟨rfl, rfl⟩ := rdB_inv h1
    exact ⟨rfl, rfl⟩
theorem rdN_inv : ∀ (m : Nat) {l l' : List UInt8} {o : List O3} {e : Int}, rdN m l e = (o, l', 0) → e = 0 ∧ l = o.flatMap cB ++ l' ∧ o.length = m
  | 0, l, l', o, e, h => by
    simp only [rdN, Prod.mk.injEq] at h
    obtain ⟨rfl, rfl, rfl⟩ := h
    exact ⟨rfl, rfl, rfl⟩
  | m + 1, l, l', o, e, h => by
    obtain ⟨k, l1, e1, h1⟩ : ∃ v l1 e1, rdB l e = (v, l1, e1) := ⟨_, _, _, rfl⟩
    obtain ⟨v, l2, e2, h2⟩ : ∃ v l2 e2, rdI l1 e1 = (v, l2, e2) := ⟨_, _, _, rfl⟩
    obtain ⟨s, l3, e3, h3⟩ : ∃ v l3 e3, rdT l2 e2 = (v, l3, e3) := ⟨_, _, _, rfl⟩
    obtain ⟨o2, l4, e4, h4⟩ : ∃ o2 l4 e4, rdN m l3 e3 = (o2, l4, e4) := ⟨_, _, _, rfl⟩
    have hc : rdC l e = (⟨k, v, s⟩, l3, e3) := by unfold rdC; simp only [h1, h2, h3]
    simp only [rdN, hc, h4, Prod.mk.injEq] at h
    obtain ⟨rfl, rfl, rfl⟩ := h
    obtain ⟨rfl, rfl, rfl⟩ := rdN_inv m h4
    obtain ⟨rfl, rfl⟩ := rdT_inv h3
    obtain ⟨rfl, rfl⟩ := rdI_inv h2
    obtain ⟨rfl, rfl⟩ := rdB_inv h1
    refine ⟨rfl, ?_, rfl⟩
    simp [cB]
theorem endOf_inv {l : List UInt8} {e : Int} (h : endOf l e = 0) : e = 0 ∧ l = [] := by
  unfold endOf at h
  by_cases hc : e = 0 ∧ l ≠ []
  · rw [if_pos hc] at h
    simp at h
  · rw [if_neg hc] at h
    exact ⟨h, Classical.byContradiction fun hl => hc ⟨h, hl⟩⟩
theorem parse_inv {chk : List O3 → Int} {b : List UInt8} {o : List O3} (h : parse chk b = (o, 0)) : b = oB o ∧ chk o = 0 ∧ o.length ≤ 40 := by
  obtain ⟨N, hN, hN2, _⟩ := rdB_num b
  unfold parse at h
  rw [hN] at h
  by_cases h40 : (40 : Int) < N
  · rw [if_pos h40] at h
    simp at h
  · rw [if_neg h40] at h
    obtain ⟨l1, e1, h1⟩ : ∃ l1 e1, (rdB b 0).2 = (l1, e1) := ⟨_, _, rfl⟩
    rw [h1, Int.toNat_natCast] at h
    obtain ⟨o2, l2, e2, h2⟩ : ∃ o2 l2 e2, rdN N l1 e1 = (o2, l2, e2) := ⟨_, _, _, rfl⟩
    rw [h2] at h
    unfold fin at h
    dsimp only at h
    by_cases he : endOf l2 e2 = 0
    · rw [if_pos he] at h
      by_cases hc : chk o2 = 0
      · rw [if_pos hc] at h
        simp only [Prod.mk.injEq, and_true] at h
        subst h
        obtain ⟨rfl, rfl⟩ := endOf_inv he
        obtain ⟨rfl, rfl, rfl⟩ := rdN_inv N h2
        have hb : rdB b 0 = (((o2.length : Nat) : Int), o2.flatMap cB ++ [], 0) := by rw [← hN, ← h1]
        obtain ⟨_, hb⟩ := rdB_inv hb
        refine ⟨?_, hc, by omega⟩
        rw [hb, List.append_nil]
        rfl
      · rw [if_neg hc] at h
        simp only [Prod.mk.injEq] at h
        exact absurd h.2 hc
    · rw [if_neg he] at h
      simp only [Prod.mk.injEq] at h
      exact absurd h.2 he
def DV.bytes (x : DV) : List UInt8 := dB x.D x.U x.I x.V x.H x.K x.L x.A x.B
theorem parseD_inv {chk : List O3 → Int} {b : List UInt8} {x : DV} (h : parseD chk b = (x, 0)) : b = x.bytes ∧ chk x.L = 0 ∧ x.L.length ≤ 40 ∧ dck chk x = 0 := by
  obtain ⟨D, l1, e1, h1⟩ : ∃ D l1 e1, rdI b 0 = (D, l1, e1) := ⟨_, _, _, rfl⟩
  obtain ⟨U, l2, e2, h2⟩ : ∃ U l2 e2, rdI l1 e1 = (U, l2, e2) := ⟨_, _, _, rfl⟩
  obtain ⟨I, l3, e3, h3⟩ : ∃ I l3 e3, rdI l2 e2 = (I, l3, e3) := ⟨_, _, _, rfl⟩
  obtain ⟨V, l4, e4, h4⟩ : ∃ V l4 e4, rdI l3 e3 = (V, l4, e4) := ⟨_, _, _, rfl⟩
  obtain ⟨H, l5, e5, h5⟩ : ∃ H l5 e5, rdH 32 l4 e4 = (H, l5, e5) := ⟨_, _, _, rfl⟩
  obtain ⟨K, l6, e6, h6⟩ : ∃ K l6 e6, rdB l5 e5 = (K, l6, e6) := ⟨_, _, _, rfl⟩
  obtain ⟨T, l7, e7, h7⟩ : ∃ T l7 e7, rdT l6 e6 = (T, l7, e7) := ⟨_, _, _, rfl⟩
  obtain ⟨A, l8, e8, h8⟩ : ∃ A l8 e8, rdI l7 e7 = (A, l8, e8) := ⟨_, _, _, rfl⟩
  obtain ⟨B, l9, e9, h9⟩ : ∃ B l9 e9, rdI l8 e8 = (B, l9, e9) := ⟨_, _, _, rfl⟩
  obtain ⟨L, e10, hp⟩ : ∃ L e10, parse chk T = (L, e10) := ⟨_, _, rfl⟩
  simp only [parseD, rdAll, h1, h2, h3, h4, h5, h6, h7, h8, h9, hp] at h
  by_cases hE : endOf l9 e9 = 0
  · rw [if_neg (by simpa using hE)] at h
    by_cases h10 : e10 = 0
    · rw [if_neg (by simpa using h10)] at h
      subst h10
      by_cases hc : dck chk ⟨D, U, I, V, H, K, L, A, B⟩ = 0
      · rw [if_neg (by simpa using hc)] at h
        simp only [Prod.mk.injEq, and_true] at h
        subst h
        obtain ⟨rfl, rfl⟩ := endOf_inv hE
        obtain ⟨rfl, rfl⟩ := rdI_inv h9
        obtain ⟨rfl, rfl⟩ := rdI_inv h8
        obtain ⟨rfl, rfl⟩ := rdT_inv h7
        obtain ⟨rfl, rfl⟩ := rdB_inv h6
        obtain ⟨rfl, rfl⟩ := rdH_inv 32 h5
        obtain ⟨rfl, rfl⟩ := rdI_inv h4
        obtain ⟨rfl, rfl⟩ := rdI_inv h3
        obtain ⟨rfl, rfl⟩ := rdI_inv h2
        obtain ⟨_, rfl⟩ := rdI_inv h1
        obtain ⟨rfl, hc2, hl⟩ := parse_inv hp
        refine ⟨?_, hc2, hl, hc⟩
        simp [DV.bytes, dB]
      · rw [if_pos (by simpa using hc)] at h
        simp only [Prod.mk.injEq] at h
        exact absurd h.2 hc
    · rw [if_pos (by simpa using h10)] at h
      simp only [Prod.mk.injEq] at h
      exact absurd h.2 h10
  · rw [if_pos (by simpa using hE)] at h
    simp only [Prod.mk.injEq] at h
    exact absurd h.2 hE
theorem rdH_back : ∀ (H X : List UInt8), rdH H.length (H ++ X) 0 = (H, X, 0)
  | [], X => rfl
  | b :: H, X => by
    have e : rdB (b :: H ++ X) 0 = (((b.toNat : Nat) : Int), H ++ X, 0) := rfl
    simp only [List.length_cons, rdH, e, rdH_back H X, u8of_byte]
/-- What was written is read. -/
theorem parseD_back {chk : List O3 → Int} (x : DV) (hD : I64 x.D) (hU : I64 x.U) (hI : I64 x.I) (hV : I64 x.V) (hH : x.H.length = 32) (hK : 0 ≤ x.K ∧ x.K ≤ 255) (hA : I64 x.A) (hB : I64 x.B) (hT : (oB x.L).length ≤ 65535)
    (hp : parse chk (oB x.L) = (x.L, 0)) (hc : dck chk x = 0) : parseD chk x.bytes = (x, 0) := by
  obtain ⟨D, U, I, V, H, K, L, A, B⟩ := x
  dsimp only at *
  have e0 : DV.bytes ⟨D, U, I, V, H, K, L, A, B⟩ = le8 D ++ (le8 U ++ (le8 I ++ (le8 V ++ (H ++ ([u8of K] ++ (txt (oB L) ++ (le8 A ++ (le8 B ++ [])))))))) := by simp [DV.bytes, dB]
  have h5 := rdH_back H ([u8of K] ++ (txt (oB L) ++ (le8 A ++ (le8 B ++ []))))
  rw [hH] at h5
  have e1 : endOf ([] : List UInt8) 0 = 0 := by simp [endOf]
  simp only [parseD, rdAll, e0, rdI_back D hD, rdI_back U hU, rdI_back I hI, rdI_back V hV, h5, rdB_back K hK.1 hK.2, rdT_back _ hT, rdI_back A hA, rdI_back B hB, e1, hp, hc]
  simp
end Cd
end Go.Proofs.Ytpcgamgjgfdpaaa

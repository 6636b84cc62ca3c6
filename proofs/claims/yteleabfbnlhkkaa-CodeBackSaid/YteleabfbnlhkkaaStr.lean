/- Strings to bytes; slices.Grow, slices.Concat of bytes. -/
import Derived.Test.YteleabfbnlhkkaaBytes
import Derived.Lib.AppendZeros
import Derived.Lib.ConvBytes
import Derived.ScopeJumps
namespace Go.Cx
open Go.RowKit

theorem Ch.bytesWorld (w : World) (e : TypeId) (s : ByteArray) : Ch (fun _ => False) w (Lib.bytesWorld w e s) :=
  ⟨rfl, rfl, rfl, by rw [Lib.bytesWorld_size]; omega, fun i hi _ => Lib.bytesWorld_at_old w e s i hi⟩
theorem Sl.bytesWorld (w : World) (e : TypeId) (l : List UInt8) (hl : l.length ≤ maxLen) :
    Sl (Lib.bytesWorld w e (str l)) 1 (some ⟨w.heap.size, 0, none⟩) l.length (grownCap w l.length 0 e) (bv l) := by
  refine ⟨by simp [bv_length], grownCap_ge _ _ _ _, grownCap_le_maxLen _ _ _ _ hl, fun h => (by cases h), ?_⟩
  rintro b hb j u hu
  cases hb
  have hj : j < l.length := by
    rcases Nat.lt_or_ge j l.length with h | h
    · exact h
    · rw [bv_get, List.getElem?_eq_none h] at hu; cases hu
  rw [add_eq, Nat.zero_add, Lib.bytesWorld_cell w e (str l) j (by simpa using hj), str_data]
  rw [bv_get, List.getElem?_eq_getElem hj] at hu
  simp only [Option.map_some, Option.some.injEq] at hu
  rw [← hu, List.getD_eq_getElem?_getD, List.getElem?_eq_getElem hj]
  rfl
/-- Rows that were laid out just now. -/
theorem RowsAt.lit (w : World) (cs : Array Value) (e : TypeId) (ll : List (List UInt8)) (hn : cs.size ≤ maxLen) (h : ll.length = cs.size)
    (h3 : ∀ (i : Nat) (l : List UInt8), ll[i]? = some l → ∃ a' c', cs.toList[i]? = some (Value.slice a' l.length c') ∧ Sl w 1 a' l.length c' (bv l)) :
    RowsAt (w.alloc (.cells cs e)) (some ⟨w.heap.size, 0, none⟩) cs.size cs.size ll :=
  ⟨h, cs.toList, Sl.lit w cs e hn, fun i l hl => let ⟨a', c', e1, e2⟩ := h3 i l hl; ⟨a', c', e1, e2.ch ((Ch.refl (fun _ => False) w).alloc _) (fun _ _ => id)⟩⟩
theorem RowsAt.ch {w w' : World} {a : Option Addr} {n c : Nat} {ll : List (List UInt8)} (h : RowsAt w a n c ll) (hb : Ch (fun _ => False) w w') : RowsAt w' a n c ll := h.below hb.below0
theorem Sl.past {w w' : World} {size n c size' n' c' B : Nat} {e : TypeId} {a a' : Option Addr} {xs ys : List Value} (h : Sl w size a n c xs) (hlt : ∀ b, a = some b → b.block < B) (ho : Own w B e size' a' n' c' ys)
    (hC : Ch (fun k => ∃ b, a' = some b ∧ b.block = k) w w') : Sl w' size a n c xs :=
  h.ch hC (fun b hb ⟨b', hb', he⟩ => by have := hlt b hb; have := (ho.block b' hb').1; omega)
theorem take_flat {α : Type} {ll : List (List α)} {i : Nat} {l : List α} (h : ll[i]? = some l) : (ll.take (i + 1)).flatten = (ll.take i).flatten ++ l := by
  rw [List.take_add_one, h]; simp
theorem take_flat_le {α : Type} (ll : List (List α)) (i : Nat) : (ll.take i).flatten.length ≤ ll.flatten.length := by
  have h := List.take_append_drop i ll
  calc (ll.take i).flatten.length ≤ ((ll.take i).flatten ++ (ll.drop i).flatten).length := by simp
    _ = ll.flatten.length := by rw [← List.flatten_append, h]
end Go.Cx
namespace Go.Proofs.Yteleabfbnlhkkaa
open Go.RowKit Go.Cx
set_option linter.unusedVariables false
set_option linter.unusedSimpArgs false

theorem to_bytes (l : List UInt8) : ∀ w : World, (convert 9 22 (.string (str l))).run Try.prog w = .ok (.slice (some ⟨w.heap.size, 0, none⟩) l.length (grownCap w l.length 0 5)) (Lib.bytesWorld w 5 (str l)) := by
  intro w
  have h := Lib.run_convert_string_bytes (P := Try.prog) w 9 22 5 (str l) Try.underlying9 Try.underlying22 Try.underlying5
  rw [str_size] at h
  exact h

/-! ### slices.Grow of nil -/
def Made0 (w : World) (e : TypeId) (en : Ending) (w' : World) : Prop :=
  ∃ a' c', en = .returned (.slice a' 0 c') ∧ Own w' w.heap.size e 1 a' 0 c' [] ∧ Ch (fun _ => False) w w'
set_option maxRecDepth 100000 in
set_option maxHeartbeats 400000 in
theorem grow_nil (n : Nat) (w : World) (hn : n ≤ 140737488355328) :
    Calls Try.prog 36 #[.slice none 0 0, .int .i64 n] w (Made0 w 5) := by
  by_cases h0 : n = 0
  · subst h0
    go_enter Try.func36, Try.ntmps36
    go_wp2
    go_ret
    exact ⟨_, _, rfl, Own.nil _ _ _ _, Ch.refl _ _⟩
  · have hd1 : (decide ((n : Int) < 0)) = false := decide_eq_false (by omega)
    have hd2 : (decide ((n : Int) > 0)) = true := decide_eq_true (by omega)
    have hp : 0 < n := by omega
    have hp2 : (0 : Int) ≤ n := by omega
    have hw : IntKind.i64.wrap (n : Int) = n := by rw [IntKind.wrap_i64]; omega
    obtain ⟨G, hG⟩ : ∃ G, G = grownCap w n 0 5 := ⟨_, rfl⟩
    have hG1 : G ≤ maxLen := by rw [hG]; exact grownCap_le_maxLen _ _ _ _ (by unfold maxLen; omega)
    have hG2 : n ≤ G := by rw [hG]; exact grownCap_ge _ _ _ _
    have hG3 : (0 : Int) ≤ G := by omega
    have hr := fun ty => Lib.run_append_nil_zeros (P := Try.prog) w 22 3 ty 5 _ _ .i64 .i64 Try.underlying22 Try.underlying3 rfl rfl n (by omega) (by decide) (by omega) (by show n * 1 ≤ _; omega)
    rw [← hG] at hr
    have HR := hid hr
    clear hr
    have H0 := hid h0
    have HG := hid hG
    clear h0 hG
    go_enter Try.func36, Try.ntmps36
    go_wp2_with (at_builtin; refine Lib.wpList_append_run w rfl _ _ _ _ rfl _ _ rfl rfl _ _ (HR.out _) ?_)
    go_ret
    exact ⟨_, _, rfl, World.ownsRow_made w.drew _ G (Nat.le_refl _) hG1 (by simp only [Array.size_append, size_zeroCells]; show n * 1 + (G - n) * 1 = G * 1; omega), (Ch.refl _ w).drew.alloc _⟩

/-! ### slices.Concat -/
set_option maxRecDepth 100000 in
set_option maxHeartbeats 1000000 in
theorem concat_any (a : Option Addr) (n c : Nat) (ll : List (List UInt8)) (w : World) (h : RowsAt w a n c ll) (hn : n ≤ 1000000000) (hb : ll.flatten.length ≤ 140737488355328) :
    Calls Try.prog 32 #[.slice a n c] w (Fresh w 5 1 ll.flatten.length (bv ll.flatten)) := by
  have H := hid h
  have HL := hid h.1
  have hcap := take_flat_le ll
  have HT := hid hcap
  clear h hcap
  go_enter Try.func32, Try.ntmps32
  go_wp2
  go_loopw [3, 5, 11] (fun vs v5 vi wr => ∃ i : Nat, i ≤ n ∧ vi = .int .i64 i ∧ vs = .int .i64 ((ll.take i).flatten.length : Nat) ∧ w = wr) (fun _ _ vi _ => n - (intOf vi).toNat)
  case atStart => exact ⟨0, by omega, rfl, rfl, rfl⟩
  case round =>
    obtain ⟨i, hi, rfl, rfl, rfl⟩ := hrel
    by_cases hlt : i < n
    · obtain ⟨l, hl⟩ : ∃ l, ll[i]? = some l := ⟨_, List.getElem?_eq_getElem (by rw [HL.out]; exact hlt)⟩
      obtain ⟨b, o, rfl⟩ := H.out.spot (by omega)
      obtain ⟨a', c', hcell, hsl⟩ := H.out.at_ hl
      have e1 := congrArg List.length (take_flat hl)
      rw [List.length_append] at e1
      have e2 := HT.out (i + 1)
      rw [e1] at e2
      have E1 := hid e1
      obtain ⟨s, hs⟩ : ∃ s, s = (ll.take i).flatten.length := ⟨_, rfl⟩
      rw [← hs] at e2 ⊢
      have HS := hid hs
      have hd : (decide ((s : Int) + (l.length : Int) < 0)) = false := decide_eq_false (by omega)
      have hw : IntKind.i64.wrap ((s : Int) + (l.length : Int)) = (s : Int) + (l.length : Int) := by rw [IntKind.wrap_i64]; omega
      clear hl hsl e1 hs
      go_wp2
      go_roundw
      case rel => exact ⟨i + 1, by omega, by go_num, by rw [E1.out, ← HS.out]; rfl, trivial⟩
      case measure => simp [intOf]; omega
    · have hin : i = n := by omega
      subst hin
      have hall : ll.take i = ll := List.take_of_length_le (by rw [HL.out]; omega)
      rw [hall]
      obtain ⟨T, hT⟩ : ∃ T, T = ll.flatten.length := ⟨_, rfl⟩
      rw [← hT] at hb ⊢
      have HT1 := hid hT
      have HA := hid hall
      clear hT hall
      go_wp2_with (go_at_call 36; refine (grow_nil T _ (by omega)).mono ?_; rintro e w1 ⟨a1, c1, rfl, ho1, hc1⟩; have O1 := hid ho1; have C1 := hid hc1; clear ho1 hc1)
      go_loopw [6, 8, 27] (fun vs v5 vi wr2 => ∃ (k m : Nat) (a2 : Option Addr) (c2 : Nat), k ≤ i ∧ vi = .int .i64 k ∧ vs = .slice a2 m c2 ∧ m = (ll.take k).flatten.length ∧ Own wr2 w.heap.size 5 1 a2 m c2 (bv (ll.take k).flatten) ∧ Ch (fun _ => False) w wr2) (fun _ _ vi _ => i - (intOf vi).toNat)
      case atStart => exact ⟨0, 0, a1, c1, by omega, rfl, rfl, rfl, O1.out, C1.out⟩
      case round =>
        obtain ⟨k, m, a2, c2, hk, rfl, rfl, hm, ho2, hc2⟩ := hrel
        have O2 := hid ho2
        have C2 := hid hc2
        have M := hid hm
        have hm2 := HT.out k
        rw [← hm, ← HT1.out] at hm2
        clear ho2 hc2 hm O1 C1
        by_cases hlt : k < i
        · obtain ⟨l, hl⟩ : ∃ l, ll[k]? = some l := ⟨_, List.getElem?_eq_getElem (by rw [HL.out]; exact hlt)⟩
          have e1 := take_flat hl
          have E1 := hid e1
          have e2 := HT.out (k + 1)
          rw [e1, List.length_append, ← M.out, ← HT1.out] at e2
          obtain ⟨b, o, rfl⟩ := H.out.spot (by omega)
          obtain ⟨a', c', hcell0, hsl⟩ := (H.out.ch C2.out).at_ hl
          have SL := hid hsl
          clear hl hsl e1
          go_wp2_with (at_builtin; refine wpList_app rfl _ _ _ _ rfl w.heap.size 5 1 1 _ et_u8 _ m _ _ rfl O2.out _ l.length _ rfl (SL.out.src Try.underlying22 (bv_one _)) (by unfold maxLen; omega) (by omega) (by have := C2.out.size; omega) ?_; intro a3 c3 w3 hO hS hC hN; rw [← bv_append, ← E1.out] at hO; have HO := hid hO; have HC := hid hC; clear hO hS hC hN)
          go_roundw
          case rel => exact ⟨k + 1, m + l.length, a3, c3, by omega, by go_num, rfl, by rw [E1.out, List.length_append, M.out], HO.out, C2.out.app_own O2.out (Nat.le_refl _) HC.out⟩
          case measure => simp [intOf]; omega
        · have hki : k = i := by omega
          subst hki
          rw [HA.out] at O2 M
          go_wp2
          go_ret
          have hM := M.out
          have hO := O2.out
          rw [← hM]
          exact ⟨a2, c2, rfl, hO, C2.out⟩
end Go.Proofs.Yteleabfbnlhkkaa

/- Bytes: what chapter 8 reaches of code and comitiaref1. Cut out of ch1's texts by cut8.py. -/
import Derived.Test.YtpcgamgjgfdpaaaRows
import Derived.Test.YtpcgamgjgfdpaaaF64
import Derived.Test.YtpcgamgjgfdpaaaMemP
import Derived.Lib.AppendZeros
import Derived.Lib.ConvBytes
import Derived.ScopeJumps
import Derived.Laws.BitsAllLaws
import Derived.Deep.QuietTactic
set_option linter.unusedVariables false
set_option linter.unusedSimpArgs false
namespace Go.Cx
open Go.RowKit

/-- Rows of bytes, in a slice that came in. -/
def RowsAt (w : World) (a : Option Addr) (n c : Nat) (ll : List (List UInt8)) : Prop :=
  ll.length = n ∧ ∃ vs : List Value, Sl w 1 a n c vs ∧ ∀ (i : Nat) (l : List UInt8), ll[i]? = some l → ∃ a' c', vs[i]? = some (Value.slice a' l.length c') ∧ Sl w 1 a' l.length c' (bv l)
theorem RowsAt.below {w w' : World} {a : Option Addr} {n c : Nat} {ll : List (List UInt8)} (h : RowsAt w a n c ll) (hb : Below w.heap.size w w') : RowsAt w' a n c ll := by
  obtain ⟨h1, vs, h2, h3⟩ := h
  exact ⟨h1, vs, h2.below hb, fun i l hl => let ⟨a', c', e1, e2⟩ := h3 i l hl; ⟨a', c', e1, e2.below hb⟩⟩
theorem RowsAt.at_ {w : World} {b o n c : Nat} {ll : List (List UInt8)} (h : RowsAt w (some ⟨b, o, none⟩) n c ll) {i : Nat} {l : List UInt8} (hl : ll[i]? = some l) :
    ∃ a' c', w.cell? ⟨b, o + i, none⟩ = some (Value.slice a' l.length c') ∧ Sl w 1 a' l.length c' (bv l) := by
  obtain ⟨_, vs, h2, h3⟩ := h
  obtain ⟨a', c', e1, e2⟩ := h3 i l hl
  exact ⟨a', c', h2.at_ e1, e2⟩
theorem RowsAt.spot {w : World} {a : Option Addr} {n c : Nat} {ll : List (List UInt8)} (h : RowsAt w a n c ll) (hn : 0 < n) : ∃ b o, a = some ⟨b, o, none⟩ := by
  obtain ⟨_, vs, h2, _⟩ := h
  exact h2.spot (by intro e; have := h2.1; rw [e] at this; simp at this; omega)
/-- Bools as cells. -/
def bbv (l : List Bool) : List Value := l.map fun b => Value.bool b
theorem bbv_length (l : List Bool) : (bbv l).length = l.length := by simp [bbv]
theorem bbv_get (l : List Bool) (j : Nat) : (bbv l)[j]? = (l[j]?).map fun b => Value.bool b := by simp [bbv]


@[go_sem, simp] theorem str_append (a b : List UInt8) : str a ++ str b = str (a ++ b) := by
  simp [str, ByteArray.ext_iff]
@[go_sem, simp] theorem str_extract (a : List UInt8) (i j : Nat) : (str a).extract i j = str ((a.take j).drop i) := by
  simp [str, ByteArray.ext_iff, List.extract_toArray, List.drop_take]

end Go.Cx
namespace Go.Proofs.Ytpcgamgjgfdpaaa
open Go.RowKit Go.Cx
set_option linter.unusedVariables false
set_option linter.unusedSimpArgs false

theorem et_u8 : ElemT Try.prog 40 5 1 1 (.int .u8 0) := ElemT.mk' Try.underlying40 (by kernel_rfl) rfl (by decide)

theorem bv_zero (n : Nat) : bv (List.replicate n 0) = List.replicate n (Value.int .u8 0) := by
  simp only [bv, List.map_replicate]; rfl

def True_ (w : World) (e : Ending) (w' : World) : Prop := e = .returned (.bool true) ∧ Ch (fun _ => False) w w'

theorem zeros_bv (n : Nat) : List.replicate n (Value.int .u8 0) = bv (List.replicate n 0) := (bv_zero n).symm
theorem string_ofN {w : World} {a : Option Addr} {n c : Nat} {l : List UInt8} (h : Sl w 1 a n c (bv l)) :
    ∀ k, (convert 40 9 (.slice a n c)).run Try.prog (w.drewN k) = .ok (.string (str l)) (w.drewN k) :=
  fun k => h.str_ Try.underlying40 Try.underlying5 Try.underlying9 _ rfl
theorem string_of {w : World} {a : Option Addr} {n c : Nat} {l : List UInt8} (h : Sl w 1 a n c (bv l)) :
    ∀ w' : World, w'.heap = w.heap → (convert 40 9 (.slice a n c)).run Try.prog w' = .ok (.string (str l)) w' :=
  h.str_ Try.underlying40 Try.underlying5 Try.underlying9

/-! ### slices.Clone of bytes -/
/-- A fresh slice: the call's own, of n elements, the cells xs; nothing that was there has turned. -/
def Fresh (w : World) (e : TypeId) (size : Nat) (n : Nat) (xs : List Value) (en : Ending) (w' : World) : Prop :=
  ∃ a' c', en = .returned (.slice a' n c') ∧ Own w' w.heap.size e size a' n c' xs ∧ Ch (fun _ => False) w w'
set_option maxRecDepth 100000 in
set_option maxHeartbeats 400000 in
theorem clone_any (a : Option Addr) (n c : Nat) (xs : List Value) (w : World) (h : Sl w 1 a n c xs) (h1 : ∀ u ∈ xs, u.oneCell' = true) (hn : n ≤ 140737488355328) :
    Calls Try.prog 55 #[.slice a n c] w (Fresh w 5 1 n xs) := by
  have q : ∀ (w : World) (a : Option Addr) (n c n' c' : Nat), (binOp .eql 40 (.slice a n c) (.slice none n' c')).run Try.prog w = .ok (.bool a.isNone) w := fun w a n c n' c' => Lib.run_eql_slice_nil w _ _ a n c n' c' Try.underlying40
  cases a with
  | none =>
    obtain ⟨rfl, rfl, rfl⟩ := h.none_zero
    go_enter Try.func55, Try.ntmps55
    go_wp2
    go_ret
    exact ⟨none, 0, rfl, Own.nil _ _ _ _, Ch.refl _ _⟩
  | some b =>
    have H := hid h
    have H1 := hid h1
    clear h h1
    go_enter Try.func55, Try.ntmps55
    go_wp2_with (at_builtin; refine wpList_app rfl _ _ _ _ rfl w.heap.size 5 1 1 _ et_u8 _ 0 _ [] rfl (World.ownsRow_made w #[] 0 (Nat.le_refl _) (Nat.zero_le _) rfl) _ n xs rfl ((H.out.ch ((Ch.refl (fun _ => False) w).alloc _) (fun _ _ => id)).src Try.underlying40 H1.out) (by unfold maxLen; omega) (by omega) (by simp) ?_; intro a' c' w1 hO hS hC hN; rw [List.nil_append, Nat.zero_add] at hO; have HO := hid hO; have HC := hid hC; clear hO hS hC hN)
    go_ret
    exact ⟨_, _, rfl, by simpa using HO.out, ((Ch.refl _ w).alloc _).trans HC.out (fun i hi ⟨b, hb, he⟩ => by cases hb; have : w.heap.size = i := he; omega)⟩


end Go.Proofs.Ytpcgamgjgfdpaaa
namespace Go.Cx
open Go.RowKit

theorem Ch.bytesWorld (w : World) (e : TypeId) (s : ByteArray) : Ch (fun _ => False) w (Lib.bytesWorld w e s) :=
  ⟨rfl, rfl, rfl, by rw [Lib.bytesWorld_size]; omega, fun i hi _ => Lib.bytesWorld_at_old w e s i hi⟩
theorem Sl.bytesWorld (w : World) (e : TypeId) (l : List UInt8) (hl : l.length ≤ maxLen) :
    Sl (Lib.bytesWorld w e (str l)) 1 (some ⟨w.heap.size, 0, none⟩) l.length (grownCap w l.length 0 e) (bv l) := by
  refine ⟨by simp [bv_length], grownCap_ge _ _ _ _, grownCap_le_maxLen _ _ _ _ hl, fun h => (by cases h), ?_⟩
  rintro b hb j u hu
  cases hb
  have hj : j < l.length := by
    rcases Nat.lt_or_ge j l.length with h | h
    · exact h
    · rw [bv_get, List.getElem?_eq_none h] at hu; cases hu
  rw [add_eq, Nat.zero_add, Lib.bytesWorld_cell w e (str l) j (by simpa using hj), str_data]
  rw [bv_get, List.getElem?_eq_getElem hj] at hu
  simp only [Option.map_some, Option.some.injEq] at hu
  rw [← hu, List.getD_eq_getElem?_getD, List.getElem?_eq_getElem hj]
  rfl
/-- Rows that were laid out just now. -/
theorem RowsAt.lit (w : World) (cs : Array Value) (e : TypeId) (ll : List (List UInt8)) (hn : cs.size ≤ maxLen) (h : ll.length = cs.size)
    (h3 : ∀ (i : Nat) (l : List UInt8), ll[i]? = some l → ∃ a' c', cs.toList[i]? = some (Value.slice a' l.length c') ∧ Sl w 1 a' l.length c' (bv l)) :
    RowsAt (w.alloc (.cells cs e)) (some ⟨w.heap.size, 0, none⟩) cs.size cs.size ll :=
  ⟨h, cs.toList, Sl.lit w cs e hn, fun i l hl => let ⟨a', c', e1, e2⟩ := h3 i l hl; ⟨a', c', e1, e2.ch ((Ch.refl (fun _ => False) w).alloc _) (fun _ _ => id)⟩⟩
theorem RowsAt.ch {w w' : World} {a : Option Addr} {n c : Nat} {ll : List (List UInt8)} (h : RowsAt w a n c ll) (hb : Ch (fun _ => False) w w') : RowsAt w' a n c ll := h.below hb.below0
theorem Sl.past {w w' : World} {size n c size' n' c' B : Nat} {e : TypeId} {a a' : Option Addr} {xs ys : List Value} (h : Sl w size a n c xs) (hlt : ∀ b, a = some b → b.block < B) (ho : Own w B e size' a' n' c' ys)
    (hC : Ch (fun k => ∃ b, a' = some b ∧ b.block = k) w w') : Sl w' size a n c xs :=
  h.ch hC (fun b hb ⟨b', hb', he⟩ => by have := hlt b hb; have := (ho.block b' hb').1; omega)
theorem take_flat {α : Type} {ll : List (List α)} {i : Nat} {l : List α} (h : ll[i]? = some l) : (ll.take (i + 1)).flatten = (ll.take i).flatten ++ l := by
  rw [List.take_add_one, h]; simp
theorem take_flat_le {α : Type} (ll : List (List α)) (i : Nat) : (ll.take i).flatten.length ≤ ll.flatten.length := by
  have h := List.take_append_drop i ll
  calc (ll.take i).flatten.length ≤ ((ll.take i).flatten ++ (ll.drop i).flatten).length := by simp
    _ = ll.flatten.length := by rw [← List.flatten_append, h]
end Go.Cx

namespace Go.Proofs.Ytpcgamgjgfdpaaa
namespace Cd
open Go.RowKit Go.Cx
set_option linter.unusedVariables false
set_option linter.unusedSimpArgs false
attribute [local go_sem high] max_ints min_ints

theorem to_bytes (l : List UInt8) : ∀ w : World, (convert 9 40 (.string (str l))).run Try.prog w = .ok (.slice (some ⟨w.heap.size, 0, none⟩) l.length (grownCap w l.length 0 5)) (Lib.bytesWorld w 5 (str l)) := by
  intro w
  have h := Lib.run_convert_string_bytes (P := Try.prog) w 9 40 5 (str l) Try.underlying9 Try.underlying40 Try.underlying5
  rw [str_size] at h
  exact h

/-! ### slices.Grow of nil -/
def Made0 (w : World) (e : TypeId) (en : Ending) (w' : World) : Prop :=
  ∃ a' c', en = .returned (.slice a' 0 c') ∧ Own w' w.heap.size e 1 a' 0 c' [] ∧ Ch (fun _ => False) w w'
set_option maxRecDepth 100000 in
set_option maxHeartbeats 400000 in
theorem grow_nil (n : Nat) (w : World) (hn : n ≤ 140737488355328) :
    Calls Try.prog 63 #[.slice none 0 0, .int .i64 n] w (Made0 w 5) := by
  by_cases h0 : n = 0
  · subst h0
    go_enter Try.func63, Try.ntmps63
    go_wp2
    go_ret
    exact ⟨_, _, rfl, Own.nil _ _ _ _, Ch.refl _ _⟩
  · have hd1 : (decide ((n : Int) < 0)) = false := decide_eq_false (by omega)
    have hd2 : (decide ((n : Int) > 0)) = true := decide_eq_true (by omega)
    have hp : 0 < n := by omega
    have hp2 : (0 : Int) ≤ n := by omega
    have hw : IntKind.i64.wrap (n : Int) = n := by rw [IntKind.wrap_i64]; omega
    obtain ⟨G, hG⟩ : ∃ G, G = grownCap w n 0 5 := ⟨_, rfl⟩
    have hG1 : G ≤ maxLen := by rw [hG]; exact grownCap_le_maxLen _ _ _ _ (by unfold maxLen; omega)
    have hG2 : n ≤ G := by rw [hG]; exact grownCap_ge _ _ _ _
    have hG3 : (0 : Int) ≤ G := by omega
    have hr := fun ty => Lib.run_append_nil_zeros (P := Try.prog) w 40 3 ty 5 _ _ .i64 .i64 Try.underlying40 Try.underlying3 rfl rfl n (by omega) (by decide) (by omega) (by show n * 1 ≤ _; omega)
    rw [← hG] at hr
    have HR := hid hr
    clear hr
    have H0 := hid h0
    have HG := hid hG
    clear h0 hG
    go_enter Try.func63, Try.ntmps63
    go_wp2_with (at_builtin; refine Lib.wpList_append_run w rfl _ _ _ _ rfl _ _ rfl rfl _ _ (HR.out _) ?_)
    go_ret
    exact ⟨_, _, rfl, World.ownsRow_made w.drew _ G (Nat.le_refl _) hG1 (by simp only [Array.size_append, size_zeroCells]; show n * 1 + (G - n) * 1 = G * 1; omega), (Ch.refl _ w).drew.alloc _⟩

/-! ### slices.Concat -/
set_option maxRecDepth 100000 in
set_option maxHeartbeats 1000000 in
theorem concat_any (a : Option Addr) (n c : Nat) (ll : List (List UInt8)) (w : World) (h : RowsAt w a n c ll) (hn : n ≤ 1000000000) (hb : ll.flatten.length ≤ 140737488355328) :
    Calls Try.prog 58 #[.slice a n c] w (Fresh w 5 1 ll.flatten.length (bv ll.flatten)) := by
  have H := hid h
  have HL := hid h.1
  have hcap := take_flat_le ll
  have HT := hid hcap
  clear h hcap
  go_enter Try.func58, Try.ntmps58
  go_wp2
  go_loopw [3, 5, 11] (fun vs v5 vi wr => ∃ i : Nat, i ≤ n ∧ vi = .int .i64 i ∧ vs = .int .i64 ((ll.take i).flatten.length : Nat) ∧ w = wr) (fun _ _ vi _ => n - (intOf vi).toNat)
  case atStart => exact ⟨0, by omega, rfl, rfl, rfl⟩
  case round =>
    obtain ⟨i, hi, rfl, rfl, rfl⟩ := hrel
    by_cases hlt : i < n
    · obtain ⟨l, hl⟩ : ∃ l, ll[i]? = some l := ⟨_, List.getElem?_eq_getElem (by rw [HL.out]; exact hlt)⟩
      obtain ⟨b, o, rfl⟩ := H.out.spot (by omega)
      obtain ⟨a', c', hcell, hsl⟩ := H.out.at_ hl
      have e1 := congrArg List.length (take_flat hl)
      rw [List.length_append] at e1
      have e2 := HT.out (i + 1)
      rw [e1] at e2
      have E1 := hid e1
      obtain ⟨s, hs⟩ : ∃ s, s = (ll.take i).flatten.length := ⟨_, rfl⟩
      rw [← hs] at e2 ⊢
      have HS := hid hs
      have hd : (decide ((s : Int) + (l.length : Int) < 0)) = false := decide_eq_false (by omega)
      have hw : IntKind.i64.wrap ((s : Int) + (l.length : Int)) = (s : Int) + (l.length : Int) := by rw [IntKind.wrap_i64]; omega
      clear hl hsl e1 hs
      go_wp2
      go_roundw
      case rel => exact ⟨i + 1, by omega, by go_num, by rw [E1.out, ← HS.out]; rfl, trivial⟩
      case measure => simp [intOf]; omega
    · have hin : i = n := by omega
      subst hin
      have hall : ll.take i = ll := List.take_of_length_le (by rw [HL.out]; omega)
      rw [hall]
      obtain ⟨T, hT⟩ : ∃ T, T = ll.flatten.length := ⟨_, rfl⟩
      rw [← hT] at hb ⊢
      have HT1 := hid hT
      have HA := hid hall
      clear hT hall
      go_wp2_with (go_at_call 63; refine (grow_nil T _ (by omega)).mono ?_; rintro e w1 ⟨a1, c1, rfl, ho1, hc1⟩; have O1 := hid ho1; have C1 := hid hc1; clear ho1 hc1)
      go_loopw [6, 8, 27] (fun vs v5 vi wr2 => ∃ (k m : Nat) (a2 : Option Addr) (c2 : Nat), k ≤ i ∧ vi = .int .i64 k ∧ vs = .slice a2 m c2 ∧ m = (ll.take k).flatten.length ∧ Own wr2 w.heap.size 5 1 a2 m c2 (bv (ll.take k).flatten) ∧ Ch (fun _ => False) w wr2) (fun _ _ vi _ => i - (intOf vi).toNat)
      case atStart => exact ⟨0, 0, a1, c1, by omega, rfl, rfl, rfl, O1.out, C1.out⟩
      case round =>
        obtain ⟨k, m, a2, c2, hk, rfl, rfl, hm, ho2, hc2⟩ := hrel
        have O2 := hid ho2
        have C2 := hid hc2
        have M := hid hm
        have hm2 := HT.out k
        rw [← hm, ← HT1.out] at hm2
        clear ho2 hc2 hm O1 C1
        by_cases hlt : k < i
        · obtain ⟨l, hl⟩ : ∃ l, ll[k]? = some l := ⟨_, List.getElem?_eq_getElem (by rw [HL.out]; exact hlt)⟩
          have e1 := take_flat hl
          have E1 := hid e1
          have e2 := HT.out (k + 1)
          rw [e1, List.length_append, ← M.out, ← HT1.out] at e2
          obtain ⟨b, o, rfl⟩ := H.out.spot (by omega)
          obtain ⟨a', c', hcell0, hsl⟩ := (H.out.ch C2.out).at_ hl
          have SL := hid hsl
          clear hl hsl e1
          go_wp2_with (at_builtin; refine wpList_app rfl _ _ _ _ rfl w.heap.size 5 1 1 _ et_u8 _ m _ _ rfl O2.out _ l.length _ rfl (SL.out.src Try.underlying40 (bv_one _)) (by unfold maxLen; omega) (by omega) (by have := C2.out.size; omega) ?_; intro a3 c3 w3 hO hS hC hN; rw [← bv_append, ← E1.out] at hO; have HO := hid hO; have HC := hid hC; clear hO hS hC hN)
          go_roundw
          case rel => exact ⟨k + 1, m + l.length, a3, c3, by omega, by go_num, rfl, by rw [E1.out, List.length_append, M.out], HO.out, C2.out.app_own O2.out (Nat.le_refl _) HC.out⟩
          case measure => simp [intOf]; omega
        · have hki : k = i := by omega
          subst hki
          rw [HA.out] at O2 M
          go_wp2
          go_ret
          have hM := M.out
          have hO := O2.out
          rw [← hM]
          exact ⟨a2, c2, rfl, hO, C2.out⟩


theorem lit1 (w : World) (z : Int) (b : UInt8) (h : (b.toNat : Int) = z) : Sl (w.alloc (.cells #[.int .u8 z] 5)) 1 (some ⟨w.heap.size, 0, none⟩) 1 1 (bv [b]) := by
  subst h; exact Sl.lit w #[.int .u8 (b.toNat : Int)] 5 (by simp [maxLen])
theorem lit2 (w : World) (y z : Int) (a b : UInt8) (h : (a.toNat : Int) = y) (h2 : (b.toNat : Int) = z) : Sl (w.alloc (.cells #[.int .u8 y, .int .u8 z] 5)) 1 (some ⟨w.heap.size, 0, none⟩) 2 2 (bv [a, b]) := by
  subst h; subst h2; exact Sl.lit w #[.int .u8 (a.toNat : Int), .int .u8 (b.toNat : Int)] 5 (by simp [maxLen])
/-- A number's byte. -/
def u8of (z : Int) : UInt8 := UInt8.ofNat (z % 256).toNat
theorem u8of_val (z : Int) : ((u8of z).toNat : Int) = z % 256 := by
  unfold u8of
  have h1 := Int.emod_nonneg z (by omega : (256 : Int) ≠ 0)
  have h2 := Int.emod_lt_of_pos z (by omega : (0 : Int) < 256)
  rw [UInt8.toNat_ofNat']
  omega
def by8 (x : Int) (i : Nat) : UInt8 := u8of (IntKind.u64.wrap x / 2 ^ (8 * i))
def upto (x : Int) (i : Nat) : List UInt8 := (List.range i).map (by8 x)
theorem upto_succ (x : Int) (i : Nat) : upto x (i + 1) = upto x i ++ [by8 x i] := by simp [upto, List.range_succ]
theorem upto_length (x : Int) (i : Nat) : (upto x i).length = i := by simp [upto]
/-- A number, in eight bytes. -/
def le8 (x : Int) : List UInt8 := upto x 8
theorem le8_length (x : Int) : (le8 x).length = 8 := upto_length x 8

def IntJump (w : World) (l : List UInt8) (n : Nat) (x : Int) (a' : Act) (w' : World) : Prop :=
  ∃ (i : Nat) (b : Option Addr) (cb : Nat) (u0 u1 u2 u3 u4 u5 u6 u7 u8 u9 u10 u11 u12 u13 u14 u15 u16 u17 u18 u19 u20 u21 u22 u23 : Value), a' = { tmps := #[u0, .int .i64 x, u2, u3, u4, .slice b (n + i) cb, .int .i64 i, u7, u8, u9, u10, u11, u12, u13, u14, u15, u16, u17, u18, u19, u20, u21, u22, u23], defers := [] } ∧ 1 ≤ i ∧ i ≤ 7 ∧
    Own w' w.heap.size 5 1 b (n + i) cb (bv (l ++ upto x i)) ∧ Ch (fun _ => False) w w'
set_option maxRecDepth 100000 in
set_option maxHeartbeats 1000000 in
theorem int_any (a : Option Addr) (n c : Nat) (l : List UInt8) (x : Int) (w : World) (h : Sl w 1 a n c (bv l)) (hn : n ≤ 1000000) :
    Calls Try.prog 41 #[.slice a n c, .int .i64 x] w (Fresh w 5 1 (n + 8) (bv (l ++ le8 x))) := by
  have H := hid h
  clear h
  have V := hid (u8of_val : ∀ z, _)
  have hn1 : n + 8 ≤ 140737488355328 := by omega
  have hn2 : n + 8 ≤ maxLen := by unfold maxLen; omega
  have hn3 : n ≤ 140737488355328 := by omega
  go_enter Try.func41, Try.ntmps41
  go_wp2
  refine wp_scope_jumps 0 (IntJump w l n x) (fun a' _ => 8 - (intOf (a'.tmps.getD 6 undef)).toNat) rfl ?_ ?_
  case refine_2 =>
    rintro a' w' ⟨i, b, cb, u0, u1, u2, u3, u4, u5, u6, u7, u8, u9, u10, u11, u12, u13, u14, u15, u16, u17, u18, u19, u20, u21, u22, u23, rfl, hi1, hi2, ho, hc⟩
    have O := hid ho
    have C := hid hc
    clear ho hc
    have hiw : IntKind.i64.wrap (8 * (i : Int)) = 8 * (i : Int) := by rw [IntKind.wrap_i64]; omega
    have hn : decide ((i : Int) < 0) = false := decide_eq_false (by omega)
    have hm1 : n + i + 1 ≤ maxLen := by unfold maxLen; omega
    have hm2 : (n + i + 1) * 1 ≤ 140737488355328 := by omega
    have LC := hid C.out.size
    have E := hid (upto_succ x i)
    rcases Nat.lt_or_ge i 7 with h7 | h7
    · have hw7 : IntKind.i64.wrap ((i : Int) + 1) = (i : Int) + 1 := by rw [IntKind.wrap_i64]; omega
      have hlt : (decide ((i : Int) + 1 < 8)) = true := decide_eq_true (by omega)
      go_wp2_with (at_builtin; (refine wpList_app rfl _ _ _ _ rfl w.heap.size 5 1 1 _ et_u8 _ (n + i) _ _ rfl (O.out.ch ((Ch.refl (fun _ => False) w').alloc _) (fun _ _ => id)) _ 1 _ rfl ((lit1 w' _ (by8 x i) (V.out _)).src Try.underlying40 (bv_one _)) hm1 hm2 (C.out.alloc _).size ?_; intro a3 c3 w3 hO hS hC hN; rw [← bv_append, List.append_assoc, ← E.out] at hO; have HO := hid hO; have HC := hid hC; clear hO hS hC hN))
      refine wp_goto ?_
      simp only [Exit.then, Exit.inBlock, Exit.jump]
      have hcast : ((i : Int) + 1) = ((i + 1 : Nat) : Int) := by omega
      rw [hcast]
      refine ⟨by trivial, ⟨i + 1, a3, c3, _, undef, _, _, _, undef, undef, _, _, _, _, _, _, _, _, _, _, _, _, _, _, _, _, _, rfl, by omega, by omega, HO.out, (C.out.alloc _).app_own (O.out.ch ((Ch.refl (fun _ => False) w').alloc _) (fun _ _ => id)) (Nat.le_refl _) HC.out⟩, ?_⟩
      simp [intOf]; omega
    · obtain rfl : i = 7 := by omega
      go_wp2_with (first
        | (at_builtin; refine wpList_app rfl _ _ _ _ rfl w.heap.size 5 1 1 _ et_u8 _ (n + 7) _ _ rfl (O.out.ch ((Ch.refl (fun _ => False) w').alloc _) (fun _ _ => id)) _ 1 _ rfl ((lit1 w' _ (by8 x 7) (V.out _)).src Try.underlying40 (bv_one _)) hm1 hm2 (C.out.alloc _).size ?_; intro a3 c3 w3 hO hS hC hN; rw [← bv_append, List.append_assoc, ← E.out] at hO; have HO := hid hO; have HC := hid ((C.out.alloc _).app_own (O.out.ch ((Ch.refl (fun _ => False) w').alloc _) (fun _ _ => id)) (Nat.le_refl _) hC); clear hO hS hC hN)
        | (go_at_call 55; refine (clone_any _ _ _ _ _ HO.out.sl (bv_one _) hn1).mono ?_; rintro e w1 ⟨a1, c1, rfl, ho1, hc1⟩; have O1 := hid ho1; have C1 := hid hc1; clear ho1 hc1))
      simp only [Exit.jump]
      go_ret
      exact ⟨a1, c1, rfl, O1.out.base_le HC.out.size, HC.out.f C1.out⟩
  · have E := hid (upto_succ x 0)
    have B0 : Hid (((by8 x 0).toNat : Int) = IntKind.u64.wrap x % 256) := hid (by have := u8of_val (IntKind.u64.wrap x / 2 ^ (8 * 0)); simpa [by8] using this)
    have hm1 : n + 0 + 1 ≤ maxLen := by omega
    have hm2 : (n + 0 + 1) * 1 ≤ 140737488355328 := by omega
    go_wp2_with (go_at_call 55; refine (clone_any a n c _ _ H.out (bv_one _) hn3).mono ?_; rintro e w1 ⟨a1, c1, rfl, ho1, hc1⟩; have O1 := hid ho1; have C1 := hid hc1; clear ho1 hc1)
    refine wp_label ?_
    go_wp2_with ((at_builtin; refine wpList_app rfl _ _ _ _ rfl w.heap.size 5 1 1 _ et_u8 _ n _ _ rfl (O1.out.ch ((Ch.refl (fun _ => False) w1).alloc _) (fun _ _ => id)) _ 1 _ rfl ((lit1 w1 _ (by8 x 0) B0.out).src Try.underlying40 (bv_one _)) hm1 hm2 (C1.out.alloc _).size ?_; intro a3 c3 w3 hO hS hC hN; rw [← bv_append] at hO; have HO := hid hO; have HC := hid hC; clear hO hS hC hN))
    refine wp_goto ?_
    simp only [Exit.then, Exit.inBlock, Exit.jump]
    exact ⟨by trivial, 1, a3, c3, _, undef, _, _, _, undef, undef, _, _, _, _, _, _, _, _, _, _, _, _, _, _, _, _, _, rfl, by omega, by omega, HO.out, (C1.out.alloc _).app_own (O1.out.ch ((Ch.refl (fun _ => False) w1).alloc _) (fun _ _ => id)) (Nat.le_refl _) HC.out⟩

/-! ### Byte, Text -/
theorem concat2 (w : World) (a1 : Option Addr) (n1 c1 : Nat) (l1 : List UInt8) (a2 : Option Addr) (n2 c2 : Nat) (l2 : List UInt8) (h1 : Sl w 1 a1 n1 c1 (bv l1)) (h2 : Sl w 1 a2 n2 c2 (bv l2)) (hb : n1 + n2 ≤ 1000000) (g : Nat) (hg : g = w.heap.size) :
    Calls Try.prog 58 #[.slice (some ⟨g, 0, none⟩) 2 2] (w.alloc (.cells #[.slice a1 n1 c1, .slice a2 n2 c2] 40)) (Fresh w 5 1 (n1 + n2) (bv (l1 ++ l2))) := by
  subst hg
  have e1 : l1.length = n1 := by have := h1.1; simpa [bv_length] using this
  have e2 : l2.length = n2 := by have := h2.1; simpa [bv_length] using this
  refine (concat_any _ 2 2 [l1, l2] _ (RowsAt.lit w #[.slice a1 n1 c1, .slice a2 n2 c2] 40 [l1, l2] (by simp [maxLen]) rfl ?_) (by omega) (by simp [e1, e2]; omega)).mono ?_
  · intro i l hl
    match i, hl with
    | 0, hl => simp at hl; subst hl; exact ⟨a1, c1, by simp [e1], by rw [e1]; exact h1⟩
    | 1, hl => simp at hl; subst hl; exact ⟨a2, c2, by simp [e2], by rw [e2]; exact h2⟩
  · rintro e w' ⟨a', c', he, ho, hc⟩
    have e3 : [l1, l2].flatten = l1 ++ l2 := by simp
    rw [e3] at he ho
    rw [List.length_append, e1, e2] at he ho
    exact ⟨a', c', he, ho.base_le (by simp), ((Ch.refl _ w).alloc _).f hc⟩
theorem concat3 (w : World) (a1 : Option Addr) (n1 c1 : Nat) (l1 : List UInt8) (a2 : Option Addr) (n2 c2 : Nat) (l2 : List UInt8) (a3 : Option Addr) (n3 c3 : Nat) (l3 : List UInt8) (h1 : Sl w 1 a1 n1 c1 (bv l1)) (h2 : Sl w 1 a2 n2 c2 (bv l2)) (h3 : Sl w 1 a3 n3 c3 (bv l3)) (hb : n1 + n2 + n3 ≤ 2000000) (g : Nat) (hg : g = w.heap.size) :
    Calls Try.prog 58 #[.slice (some ⟨g, 0, none⟩) 3 3] (w.alloc (.cells #[.slice a1 n1 c1, .slice a2 n2 c2, .slice a3 n3 c3] 40)) (Fresh w 5 1 (n1 + n2 + n3) (bv (l1 ++ l2 ++ l3))) := by
  subst hg
  have e1 : l1.length = n1 := by have := h1.1; simpa [bv_length] using this
  have e2 : l2.length = n2 := by have := h2.1; simpa [bv_length] using this
  have e3 : l3.length = n3 := by have := h3.1; simpa [bv_length] using this
  refine (concat_any _ 3 3 [l1, l2, l3] _ (RowsAt.lit w #[.slice a1 n1 c1, .slice a2 n2 c2, .slice a3 n3 c3] 40 [l1, l2, l3] (by simp [maxLen]) rfl ?_) (by omega) (by simp [e1, e2, e3]; omega)).mono ?_
  · intro i l hl
    match i, hl with
    | 0, hl => simp at hl; subst hl; exact ⟨a1, c1, by simp [e1], by rw [e1]; exact h1⟩
    | 1, hl => simp at hl; subst hl; exact ⟨a2, c2, by simp [e2], by rw [e2]; exact h2⟩
    | 2, hl => simp at hl; subst hl; exact ⟨a3, c3, by simp [e3], by rw [e3]; exact h3⟩
  · rintro e w' ⟨a', c', he, ho, hc⟩
    have e4 : [l1, l2, l3].flatten = l1 ++ l2 ++ l3 := by simp
    rw [e4] at he ho
    rw [List.length_append, List.length_append, e1, e2, e3] at he ho
    exact ⟨a', c', he, ho.base_le (by simp), ((Ch.refl _ w).alloc _).f hc⟩

theorem Fresh.of {w w1 w' : World} {e : TypeId} {size n : Nat} {xs : List Value} {en : Ending} (h : Fresh w1 e size n xs en w') (hc : Ch (fun _ => False) w w1) : Fresh w e size n xs en w' := by
  obtain ⟨a', c', he, ho, hc'⟩ := h
  exact ⟨a', c', he, ho.base_le hc.size, hc.f hc'⟩

set_option maxRecDepth 100000 in
set_option maxHeartbeats 400000 in
theorem byte_any (a : Option Addr) (n c : Nat) (l : List UInt8) (x : Int) (w : World) (h : Sl w 1 a n c (bv l)) (hn : n ≤ 900000) :
    Calls Try.prog 39 #[.slice a n c, .int .i64 x] w (Fresh w 5 1 (n + 1) (bv (l ++ [u8of x]))) := by
  have H := hid h
  clear h
  have hb : n + 1 ≤ 1000000 := by omega
  go_enter Try.func39, Try.ntmps39
  go_wp2_with (go_at_call 58; refine (concat2 (w.alloc (.cells #[.int .u8 (x % 256)] 5)) _ _ _ l _ _ _ [u8of x] (H.out.ch ((Ch.refl (fun _ => False) w).alloc _) (fun _ _ => id)) (lit1 w _ (u8of x) (u8of_val x)) hb _ (by simp)).mono ?_; rintro e w1 ⟨a1, c1, rfl, ho1, hc1⟩; have O1 := hid ho1; have C1 := hid hc1; clear ho1 hc1)
  go_ret
  exact ⟨a1, c1, rfl, O1.out.base_le (by simp), ((Ch.refl _ w).alloc _).f C1.out⟩

/-- A text, with its length ahead. -/
def txt (s : List UInt8) : List UInt8 := [u8of (min s.length 65535 : Nat), u8of ((min s.length 65535 : Nat) / 256 : Int)] ++ s.take 65535
theorem txt_length (s : List UInt8) : (txt s).length = 2 + min s.length 65535 := by simp [txt, Nat.min_comm]; omega
set_option maxRecDepth 100000 in
set_option maxHeartbeats 400000 in
theorem text_any (a : Option Addr) (n c : Nat) (l s : List UInt8) (w : World) (h : Sl w 1 a n c (bv l)) (hn : n ≤ 900000) (hs : s.length ≤ 1000000) :
    Calls Try.prog 40 #[.slice a n c, .string (str s)] w (Fresh w 5 1 (n + 2 + min s.length 65535) (bv (l ++ txt s))) := by
  have H := hid h
  clear h
  obtain ⟨k, hk⟩ : ∃ k, k = min s.length 65535 := ⟨_, rfl⟩
  have hk1 : min (s.length : Int) 65535 = (k : Int) := by omega
  have hk2 : min k s.length = k := by omega
  have hk3 : (s.take k).length = k := by rw [List.length_take]; omega
  have hk4 : k ≤ 65535 := by omega
  have hk5 : (0 : Int) ≤ k := by omega
  have hk6 : (k : Int) ≤ s.length := by omega
  have hk7 : (k : Int).toNat = k := by omega
  have htx : txt s = [u8of (k : Int), u8of ((k : Int) / 256)] ++ s.take k := by
    unfold txt
    rw [← hk]
    congr 1
    rcases Nat.lt_or_ge s.length 65535 with h | h
    · rw [List.take_of_length_le (by omega), List.take_of_length_le (by omega)]
    · have : k = 65535 := by omega
      rw [this]
  rw [htx, ← hk]
  have hb1 : ((u8of (k : Int)).toNat : Int) = (k : Int) % 256 := u8of_val _
  have hb2 : ((u8of ((k : Int) / 256)).toNat : Int) = (k : Int) / 256 := by rw [u8of_val]; omega
  have B1 := hid hb1
  have B2 := hid hb2
  have HK := hid hk
  have hc := to_bytes (s.take k)
  rw [hk3] at hc
  have hl : ∀ (w : World) (g : Nat), g = w.heap.size → Sl (Lib.bytesWorld w 5 (str (s.take k))) 1 (some ⟨g, 0, none⟩) k (grownCap w k 0 5) (bv (s.take k)) := by
    rintro w g rfl
    have := Sl.bytesWorld w 5 (s.take k) (by rw [hk3]; unfold maxLen; omega)
    rwa [hk3] at this
  have HL := hid hl
  clear hk hb1 hb2 hl htx
  have hbb : n + 2 + k ≤ 2000000 := by omega
  obtain ⟨W1, hW1⟩ : ∃ W1 : World, W1 = w.alloc (.cells #[.int .u8 ((k : Int) % 256), .int .u8 ((k : Int) / 256)] 5) := ⟨_, rfl⟩
  have hCW : Ch (fun _ => False) w (Lib.bytesWorld W1 5 (str (s.take k))) := by rw [hW1]; exact ((Ch.refl _ w).alloc _).f (Ch.bytesWorld _ _ _)
  have hS2 : Sl (Lib.bytesWorld W1 5 (str (s.take k))) 1 (some ⟨w.heap.size, 0, none⟩) 2 2 (bv [u8of (k : Int), u8of ((k : Int) / 256)]) := by
    rw [hW1]; exact (lit2 w _ _ _ _ B1.out B2.out).ch (Ch.bytesWorld _ _ _) (fun _ _ => id)
  have hS3 := HL.out W1 (w.heap.size + 1) (by rw [hW1]; simp)
  have CW := hid hCW
  have S2 := hid hS2
  have S3 := hid hS3
  have S1 := hid (H.out.ch hCW (fun _ _ => id))
  have hg : ∀ g : Nat, g = (Lib.bytesWorld W1 5 (str (s.take k))).heap.size → g = (Lib.bytesWorld W1 5 (str (s.take k))).heap.size := fun _ h => h
  clear hCW hS2 hS3 hg
  subst hW1
  go_enter Try.func40, Try.ntmps40
  go_wp2_with (go_at_call 58; refine (concat3 (Lib.bytesWorld (w.alloc _) _ _) _ _ _ l _ _ _ _ _ _ _ (s.take k) S1.out S2.out S3.out hbb _ rfl).mono ?_; rintro e w1 ⟨a1, c1, rfl, ho1, hc1⟩; have O1 := hid ho1; have C1 := hid hc1; clear ho1 hc1)
  go_ret
  exact ⟨a1, c1, rfl, by have := O1.out; rw [List.append_assoc] at this; exact this.base_le CW.out.size, CW.out.f C1.out⟩


/-- What was appended to what the caller owns. -/
def AppPost (w : World) (base : Nat) (a : Option Addr) (n c : Nat) (l news : List UInt8) (m : Nat) (e : Ending) (w' : World) : Prop :=
  ∃ a' c', e = .returned (.slice a' m c') ∧ App w w' base 5 1 a n c (bv l) a' m c' (bv (l ++ news))

set_option maxRecDepth 100000 in
set_option maxHeartbeats 1000000 in
theorem rint_any (base : Nat) (a : Option Addr) (n c : Nat) (l : List UInt8) (x : Int) (w : World) (h : Own w base 5 1 a n c (bv l)) (hn : n ≤ 1000000) (hbase : base ≤ w.heap.size) :
    Calls Try.prog 38 #[.slice a n c, .int .i64 x] w (AppPost w base a n c l (le8 x) (n + 8)) := by
  have H := hid h
  clear h
  have V := hid (u8of_val : ∀ z, _)
  go_enter Try.func38, Try.ntmps38
  go_wp2
  go_loopw [0, 5] (fun vb vi wr => ∃ (i : Nat) (b : Option Addr) (cb : Nat), i ≤ 8 ∧ vi = .int .i64 i ∧ vb = .slice b (n + i) cb ∧ App w wr base 5 1 a n c (bv l) b (n + i) cb (bv (l ++ upto x i))) (fun _ vi _ => 8 - (intOf vi).toNat)
  case atStart => exact ⟨0, a, c, by omega, rfl, rfl, by have := App.start H.out; simpa [upto] using this⟩
  case round =>
    obtain ⟨i, b, cb, hi, rfl, rfl, hA⟩ := hrel
    have A := hid hA
    clear hA
    by_cases hlt : i < 8
    · have hiw : IntKind.i64.wrap (8 * (i : Int)) = 8 * (i : Int) := by rw [IntKind.wrap_i64]; omega
      have hiu : IntKind.u64.wrap (i : Int) = i := by unfold IntKind.wrap; simp [IntKind.bits, IntKind.signed]; omega
      have hiw : IntKind.u64.wrap (8 * (i : Int)) = 8 * (i : Int) := by unfold IntKind.wrap; simp [IntKind.bits, IntKind.signed]; omega
      have hm1 : n + i + 1 ≤ maxLen := by unfold maxLen; omega
      have hm2 : (n + i + 1) * 1 ≤ 140737488355328 := by omega
      have E := hid (upto_succ x i)
      go_wp2_with (at_builtin; refine wpList_app rfl _ _ _ _ rfl base 5 1 1 _ et_u8 _ (n + i) _ _ rfl (A.out.f ((Ch.refl _ wr).alloc _)).own _ 1 _ rfl ((lit1 wr _ (by8 x i) (V.out _)).src Try.underlying40 (bv_one _)) hm1 hm2 (Nat.le_trans hbase (A.out.ch.alloc _).size) ?_; intro a3 c3 w3 hO hS hC hN; have HA := hid ((A.out.f ((Ch.refl _ wr).alloc _)).step hO hS hC hN); clear hO hS hC hN)
      go_roundw
      case rel => exact ⟨i + 1, a3, c3, by omega, by go_num, rfl, by have := HA.out; rw [← bv_append, List.append_assoc, ← E.out] at this; exact this⟩
      case measure => simp [intOf]; omega
    · obtain rfl : i = 8 := by omega
      go_wp2
      go_ret
      exact ⟨b, cb, rfl, A.out⟩

set_option maxRecDepth 100000 in
set_option maxHeartbeats 1000000 in
theorem rbyte_any (base : Nat) (a : Option Addr) (n c : Nat) (l : List UInt8) (x : Int) (w : World) (h : Own w base 5 1 a n c (bv l)) (hn : n ≤ 1000000) (hbase : base ≤ w.heap.size) :
    Calls Try.prog 36 #[.slice a n c, .int .i64 x] w (AppPost w base a n c l [u8of x] (n + 1)) := by
  have A := hid (App.start h)
  clear h
  have V := hid (u8of_val : ∀ z, _)
  have hm1 : n + 1 ≤ maxLen := by unfold maxLen; omega
  have hm2 : (n + 1) * 1 ≤ 140737488355328 := by omega
  go_enter Try.func36, Try.ntmps36
  go_wp2_with (at_builtin; refine wpList_app rfl _ _ _ _ rfl base 5 1 1 _ et_u8 _ n _ _ rfl (A.out.f ((Ch.refl _ w).alloc _)).own _ 1 _ rfl ((lit1 w _ (u8of x) (V.out _)).src Try.underlying40 (bv_one _)) hm1 hm2 (Nat.le_trans hbase (A.out.ch.alloc _).size) ?_; intro a3 c3 w3 hO hS hC hN; have HA := hid ((A.out.f ((Ch.refl _ w).alloc _)).step hO hS hC hN); clear hO hS hC hN)
  go_ret
  exact ⟨a3, c3, rfl, by have := HA.out; rw [← bv_append] at this; exact this⟩

theorem src_str (w : World) (l : List UInt8) : Src Try.prog 1 9 (.string (str l)) l.length (bv l) w := by
  have h := Src.ofString (P := Try.prog) w Try.underlying9 (str l)
  have e : byteCells (str l) = bv l := by simp [byteCells, bv, str]
  rw [e, str_size] at h
  exact h

set_option maxRecDepth 100000 in
set_option maxHeartbeats 1000000 in
theorem rtext_any (base : Nat) (a : Option Addr) (n c : Nat) (l s : List UInt8) (w : World) (h : Own w base 5 1 a n c (bv l)) (hn : n ≤ 1000000) (hs : s.length ≤ 1000000) (hbase : base ≤ w.heap.size) :
    Calls Try.prog 37 #[.slice a n c, .string (str s)] w (AppPost w base a n c l (txt s) (n + 2 + min s.length 65535)) := by
  have A := hid (App.start h)
  clear h
  obtain ⟨K, hK⟩ : ∃ K, K = min s.length 65535 := ⟨_, rfl⟩
  have htx : txt s = [u8of (K : Int), u8of ((K : Int) / 256)] ++ s.take K := by
    unfold txt
    rw [← hK]
    congr 1
    rcases Nat.lt_or_ge s.length 65535 with h | h
    · rw [List.take_of_length_le (by omega), List.take_of_length_le (by omega)]
    · have : K = 65535 := by omega
      rw [this]
  rw [htx, ← hK]
  have hb1 : ((u8of (K : Int)).toNat : Int) = (K : Int) % 256 := u8of_val _
  have hb2 : ((u8of ((K : Int) / 256)).toNat : Int) = (K : Int) / 256 := by rw [u8of_val]; omega
  have hS : ∀ w, Src Try.prog 1 9 (.string (str (s.take K))) K (bv (s.take K)) w := by
    intro w
    have := src_str w (s.take K)
    rw [List.length_take, show min K s.length = K by omega] at this
    exact this
  have S := hid hS
  have hm1 : n + 2 + K ≤ maxLen := by unfold maxLen; omega
  have hm2 : (n + 2 + K) * 1 ≤ 140737488355328 := by omega
  have hm3 : n + 2 ≤ maxLen := by omega
  have hm4 : (n + 2) * 1 ≤ 140737488355328 := by omega
  have B1 := hid hb1
  have B2 := hid hb2
  clear htx hS hb1 hb2
  rcases Nat.lt_or_ge 65535 s.length with hlt | hge
  · have hk3 : min 65535 s.length = 65535 := by omega
    have hk0 : K = 65535 := by omega
    have HK := hid hk0
    have S' : Hid (∀ w, Src Try.prog 1 9 (.string (str (s.take 65535))) K (bv (s.take K)) w) := by
      have := S.out; rw [show s.take 65535 = s.take K by rw [hk0]]; exact hid this
    have B1' : Hid (((u8of (K : Int)).toNat : Int) = 255) := by have := B1.out; exact hid (by omega)
    have B2' : Hid (((u8of ((K : Int) / 256)).toNat : Int) = 255) := by have := B2.out; exact hid (by omega)
    clear hK hk0
    go_enter Try.func37, Try.ntmps37
    go_wp2_with (first
      | (at_builtin; refine wpList_app rfl _ _ _ _ rfl base 5 1 1 _ et_u8 _ n _ _ rfl (A.out.f ((Ch.refl _ w).alloc _)).own _ 2 _ rfl ((lit2 w _ _ (u8of (K : Int)) (u8of ((K : Int) / 256)) B1'.out B2'.out).src Try.underlying40 (bv_one _)) hm3 hm4 (Nat.le_trans hbase (A.out.ch.alloc _).size) ?_; intro a3 c3 w3 hO hS hC hN; have HA := hid ((A.out.f ((Ch.refl _ w).alloc _)).step hO hS hC hN); clear hO hS hC hN)
      | (at_builtin; refine wpList_app rfl _ _ _ _ rfl base 5 1 1 _ et_u8 _ (n + 2) _ _ rfl HA.out.own _ K _ rfl (S'.out _) hm1 hm2 (Nat.le_trans hbase HA.out.ch.size) ?_; intro a4 c4 w4 hO hS hC hN; have HB := hid (HA.out.step hO hS hC hN); clear hO hS hC hN))
    go_ret
    exact ⟨a4, c4, rfl, by have := HB.out; rw [← bv_append, ← bv_append, List.append_assoc] at this; exact this⟩
  · have hk0 : s.length = K := by omega
    have hk1 : s.take K = s := by rw [← hk0]; exact List.take_length
    have hk2 : K ≤ 65535 := by omega
    rw [hk1] at S ⊢
    have B1' : Hid (((u8of (K : Int)).toNat : Int) = (s.length : Int) % 256) := by have := B1.out; exact hid (by omega)
    have B2' : Hid (((u8of ((K : Int) / 256)).toNat : Int) = (s.length : Int) / 256) := by have := B2.out; exact hid (by omega)
    clear hK hk0 hk1
    go_enter Try.func37, Try.ntmps37
    go_wp2_with (first
      | (at_builtin; refine wpList_app rfl _ _ _ _ rfl base 5 1 1 _ et_u8 _ n _ _ rfl (A.out.f ((Ch.refl _ w).alloc _)).own _ 2 _ rfl ((lit2 w _ _ (u8of (K : Int)) (u8of ((K : Int) / 256)) B1'.out B2'.out).src Try.underlying40 (bv_one _)) hm3 hm4 (Nat.le_trans hbase (A.out.ch.alloc _).size) ?_; intro a3 c3 w3 hO hS hC hN; have HA := hid ((A.out.f ((Ch.refl _ w).alloc _)).step hO hS hC hN); clear hO hS hC hN)
      | (at_builtin; refine wpList_app rfl _ _ _ _ rfl base 5 1 1 _ et_u8 _ (n + 2) _ _ rfl HA.out.own _ K _ rfl (S.out _) hm1 hm2 (Nat.le_trans hbase HA.out.ch.size) ?_; intro a4 c4 w4 hO hS hC hN; have HB := hid (HA.out.step hO hS hC hN); clear hO hS hC hN))
    go_ret
    exact ⟨a4, c4, rfl, by have := HB.out; rw [← bv_append, ← bv_append, List.append_assoc] at this; exact this⟩


/-- A reader: what is left, and its error. -/
def Rd (w : World) (p : Nat) (l : List UInt8) (e : Int) : Prop :=
  ∃ a n c, w.heap[p]? = some (.cells #[.slice a n c, .int .i64 e] 85 (0, 0)) ∧ Sl w 1 a n c (bv l) ∧ (∀ b, a = some b → b.block < p) ∧ n = l.length ∧ n ≤ 1000000
theorem Rd.ch {S : Nat → Prop} {w w' : World} {p : Nat} {l : List UInt8} {e : Int} (B : Nat) (h : Rd w p l e) (hc : Ch S w w') (hs : ∀ k, ¬ S k) : Rd w' p l e := by
  obtain ⟨a, n, c, h1, h2, h3⟩ := h
  exact ⟨a, n, c, hc.heap h1 (hs p), h2.ch hc (fun b _ => hs _), h3⟩
theorem Rd.past {S : Nat → Prop} {w w' : World} {p : Nat} {l : List UInt8} {e : Int} (h : Rd w p l e) (hc : Ch S w w') (hs : ∀ k, k ≤ p → ¬ S k) : Rd w' p l e := by
  obtain ⟨a, n, c, h1, h2, h3, h4⟩ := h
  exact ⟨a, n, c, hc.heap h1 (hs p (Nat.le_refl _)), h2.ch hc (fun b hb => hs _ (Nat.le_of_lt (h3 b hb))), h3, h4⟩
theorem Rd.f {w w' : World} {p : Nat} {l : List UInt8} {e : Int} (h : Rd w p l e) (hc : Ch (fun _ => False) w w') : Rd w' p l e := h.ch 0 hc (fun _ => id)
theorem Sl_len {w : World} {a : Option Addr} {n c : Nat} {l : List UInt8} (h : Sl w 1 a n c (bv l)) : n = l.length := by have := h.1; simpa [bv_length] using this.symm

/-! ### New -/
def NewPost (w : World) (l : List UInt8) (e : Ending) (w' : World) : Prop :=
  ∃ p, e = .returned (.pointer (some ⟨p, 0, none⟩)) ∧ Rd w' p l 0 ∧ w.heap.size ≤ p ∧ Ch (fun _ => False) w w'
set_option maxRecDepth 100000 in
set_option maxHeartbeats 400000 in
theorem new1_any (a : Option Addr) (n c : Nat) (l : List UInt8) (w : World) (h : Sl w 1 a n c (bv l)) (hn : n ≤ 1000000) :
    Calls Try.prog 29 #[.slice a n c] w (NewPost w l) := by
  have H := hid h
  have e := hid (Sl_len h)
  clear h
  go_enter Try.func29, Try.ntmps29
  go_wp2_with (go_at_call 55; refine (clone_any a n c _ _ H.out (bv_one _) (by omega)).mono ?_; rintro e w1 ⟨a1, c1, rfl, ho1, hc1⟩; have O1 := hid ho1; have C1 := hid hc1; clear ho1 hc1)
  go_ret
  have hs := C1.out.size
  exact ⟨_, rfl, ⟨a1, n, c1, alloc_blk_new _ rfl, O1.out.sl.ch ((Ch.refl (fun _ => False) w1).alloc _) (fun _ _ => id), fun b hb => by have := (O1.out.block b hb).2; omega, e.out, hn⟩, hs, C1.out.alloc _⟩

/-! ### Fail, End -/
def er (e e' : Int) : Int := if e = 0 then e' else e
def FailPost (w : World) (p : Nat) (l : List UInt8) (e : Int) (en : Ending) (w' : World) : Prop := en = .returned (.tuple #[]) ∧ Rd w' p l e ∧ Ch (fun k => k = p) w w'
set_option maxRecDepth 100000 in
set_option maxHeartbeats 400000 in
theorem fail_any (p : Nat) (l : List UInt8) (e e' : Int) (w : World) (h : Rd w p l e) :
    Calls Try.prog 33 #[.pointer (some ⟨p, 0, none⟩), .int .i64 e'] w (FailPost w p l (er e e')) := by
  obtain ⟨a, n, c, h1, h2, h3⟩ := h
  have c1 : w.cell? ⟨p, 1, none⟩ = some (.int .i64 e) := cell_blk h1 1
  have f1 := frozen_blk h1 1
  by_cases he : e = 0
  · have hb : (e == 0) = true := by rw [he]; rfl
    have hst : w.cell? ⟨p, 1, none⟩ = some (.int .i64 0) := by rw [c1, he]
    have G : FailPost w p l (er e e') (.returned (.tuple #[])) (w.setCell ⟨p, 1, none⟩ (.int .i64 e')) := by
      refine ⟨rfl, ⟨a, n, c, ?_, ?_, h3⟩, (Ch.refl _ w).set⟩
      · rw [set_blk h1]; simp [er, he]
      · exact h2.ch (S := fun k => k = p) (Ch.refl _ w).set (fun b hb e => Nat.ne_of_lt (h3.1 b hb) e)
    have HG := hid G
    clear h1 h2 h3 G c1 hb
    go_enter Try.func33, Try.ntmps33
    go_wp2
    go_end0
    exact HG.out
  · have hb : (e == 0) = false := beq_eq_false_iff_ne.2 he
    have G : FailPost w p l (er e e') (.returned (.tuple #[])) w := ⟨rfl, ⟨a, n, c, by rw [h1]; simp [er, he], h2, h3⟩, Ch.refl _ _⟩
    have HG := hid G
    clear h1 h2 h3 G
    go_enter Try.func33, Try.ntmps33
    go_wp2
    go_end0
    exact HG.out
def endOf (l : List UInt8) (e : Int) : Int := if e = 0 ∧ l ≠ [] then 9 else e
set_option maxRecDepth 100000 in
set_option maxHeartbeats 400000 in
theorem end_any (p : Nat) (l : List UInt8) (e : Int) (w : World) (h : Rd w p l e) :
    Calls Try.prog 34 #[.pointer (some ⟨p, 0, none⟩)] w fun en w' => en = .returned (.int .i64 (endOf l e)) ∧ w = w' := by
  obtain ⟨a, n, c, h1, h2, h3, h4, h5⟩ := h
  have c0 : w.cell? ⟨p, 0, none⟩ = some (.slice a n c) := cell_blk h1 0
  have c1 : w.cell? ⟨p, 1, none⟩ = some (.int .i64 e) := cell_blk h1 1
  clear h1 h2 h3
  by_cases he : e = 0
  · subst he
    cases l with
    | nil =>
      have h0 : n = 0 := h4
      subst h0
      clear h4
      go_enter Try.func34, Try.ntmps34
      go_wp2
      go_ret
      exact ⟨by simp [endOf], rfl⟩
    | cons b l =>
      have h0 : 0 < n := by rw [h4]; simp
      have h0' : (0 : Int) < n := by omega
      clear h4
      go_enter Try.func34, Try.ntmps34
      go_wp2
      go_ret
      exact ⟨by simp [endOf], rfl⟩
  · have hb : (e == 0) = false := beq_eq_false_iff_ne.2 he
    have HE := hid he
    clear h4 he
    go_enter Try.func34, Try.ntmps34
    go_wp2
    go_ret
    exact ⟨by simp [endOf, HE.out], rfl⟩

/-! ### take -/
def TakeOk (w : World) (p : Nat) (l : List UInt8) (k : Nat) (en : Ending) (w' : World) : Prop :=
  ∃ a' c', en = .returned (.slice a' k c') ∧ Sl w' 1 a' k c' (bv (l.take k)) ∧ Rd w' p (l.drop k) 0 ∧ Ch (fun k => k = p) w w'
def TakeBad (w : World) (p : Nat) (l : List UInt8) (e : Int) (en : Ending) (w' : World) : Prop :=
  en = .returned (.slice none 0 0) ∧ Rd w' p l (er e 8) ∧ Ch (fun k => k = p) w w'
set_option maxRecDepth 100000 in
set_option maxHeartbeats 400000 in
theorem take_bad (p : Nat) (l : List UInt8) (e : Int) (k : Nat) (w : World) (h : Rd w p l e) (hb : e ≠ 0 ∨ l.length < k) :
    Calls Try.prog 57 #[.pointer (some ⟨p, 0, none⟩), .int .i64 k] w (TakeBad w p l e) := by
  have H := hid h
  obtain ⟨a, n, c, h1, h2, h3, h4, h5⟩ := h
  have c0 : w.cell? ⟨p, 0, none⟩ = some (.slice a n c) := cell_blk h1 0
  rcases Nat.lt_or_ge n k with hnk | hnk
  · clear h1 h2 h3 h4 hb
    have he8 : er e 8 ≠ 0 := by unfold er; split <;> omega
    have hb8 : (er e 8 == 0) = false := beq_eq_false_iff_ne.2 he8
    go_enter Try.func57, Try.ntmps57
    go_wp2_with (go_at_call 33; refine (fail_any p l e 8 _ H.out).mono ?_; rintro en w1 ⟨rfl, hr, hc⟩; obtain ⟨a', n', c', g1, g2, g3⟩ := id hr; have c1 : w1.cell? ⟨p, 1, none⟩ = some (.int .i64 (er e 8)) := cell_blk g1 1; have R := hid hr; have C := hid hc; clear g1 g2 g3 hr hc)
    go_ret
    exact ⟨rfl, R.out, C.out⟩
  · have he : e ≠ 0 := by rcases hb with h | h; exact h; omega
    have c1 : w.cell? ⟨p, 1, none⟩ = some (.int .i64 e) := cell_blk h1 1
    have hbe : (e == 0) = false := beq_eq_false_iff_ne.2 he
    have hee : er e 8 = e := by unfold er; rw [if_neg he]
    have HE := hid hee
    clear h1 h2 h3 h4 hb hee
    go_enter Try.func57, Try.ntmps57
    go_wp2
    go_ret
    exact ⟨rfl, by rw [HE.out]; exact H.out, Ch.refl _ _⟩
theorem Sl_drop {w : World} {a : Option Addr} {n c : Nat} {xs : List Value} (h : Sl w 1 a n c xs) (k : Nat) (hk : k ≤ n) : Sl w 1 (a.map fun x => x.add k) (n - k) (c - k) (xs.drop k) := by
  obtain ⟨h1, h2, h3, h4, h5⟩ := id h
  refine ⟨by rw [List.length_drop, h1]; omega, by omega, by omega, fun e => ?_, ?_⟩
  · cases a with
    | none => have := h4 rfl; omega
    | some b => cases e
  · rintro b hb j u hu
    rw [List.getElem?_drop] at hu
    obtain ⟨b0, o, rfl⟩ := h.spot (by intro e; rw [e] at hu; simp at hu)
    simp only [Option.map_some, Option.some.injEq] at hb
    subst hb
    rw [add_eq, add_eq, Nat.add_assoc, ← add_eq]
    exact h5 _ rfl _ u hu
theorem take_fin {w : World} {p : Nat} {l : List UInt8} {k n c c2 : Nat} {a a2 : Option Addr} (h1 : w.heap[p]? = some (.cells #[.slice a n c, .int .i64 0] 85 (0, 0))) (h2 : Sl w 1 a n c (bv l)) (h3 : ∀ b, a = some b → b.block < p) (h4 : n = l.length) (h5 : n ≤ 1000000)
    (hk : k ≤ n) (g : Sl w 1 a2 (n - k) c2 (bv (l.drop k))) (g2 : ∀ b, a2 = some b → b.block < p) :
    TakeOk w p l k (.returned (.slice a k c)) (w.setCell ⟨p, 0, none⟩ (.slice a2 (n - k) c2)) := by
  refine ⟨a, c, rfl, ?_, ⟨a2, n - k, c2, ?_, g.ch (S := fun k => k = p) (Ch.refl _ w).set (fun b hb e => Nat.ne_of_lt (g2 b hb) e), g2, by rw [List.length_drop]; omega, by omega⟩, (Ch.refl _ w).set⟩
  · rw [bv_take]; exact (h2.take k hk).ch (S := fun k => k = p) (Ch.refl _ w).set (fun b hb e => Nat.ne_of_lt (h3 b hb) e)
  · rw [set_blk h1]; simp
set_option maxRecDepth 100000 in
set_option maxHeartbeats 400000 in
theorem take_ok (p : Nat) (l : List UInt8) (k : Nat) (w : World) (h : Rd w p l 0) (hk : k ≤ l.length) :
    Calls Try.prog 57 #[.pointer (some ⟨p, 0, none⟩), .int .i64 k] w (TakeOk w p l k) := by
  obtain ⟨a, n, c, h1, h2, h3, h4, h5⟩ := h
  have c0 : w.cell? ⟨p, 0, none⟩ = some (.slice a n c) := cell_blk h1 0
  have c1 : w.cell? ⟨p, 1, none⟩ = some (.int .i64 0) := cell_blk h1 1
  have f0 := frozen_blk h1 0
  have hnk : k ≤ n := by omega
  have hkc : k ≤ c := Nat.le_trans hnk h2.2.1
  have i1 : (0 : Int) ≤ k := by omega
  have i2 : (k : Int) ≤ c := by omega
  have i3 : (k : Int) ≤ n := by omega
  have i4 : (n : Int) ≤ c := by have := h2.2.1; omega
  have hle : ¬ ((k : Int) > n) := by omega
  have hts : (k : Int).toNat = k := by omega
  have H1 := hid h1
  have H2 := hid h2
  have H3 := hid h3
  have H4 := hid h4
  clear h1 h2 h3 h4 hk
  by_cases hck : c = k
  · subst hck
    have G := hid (take_fin H1.out H2.out H3.out H4.out h5 hnk (show Sl w 1 a (n - c) 0 (bv (l.drop c)) by
      have e : l.drop c = [] := by rw [List.drop_eq_nil_iff]; have := H4.out; omega
      rw [e]; exact ⟨by simp [bv]; omega, by omega, by unfold maxLen; omega, fun _ => rfl, fun b hb j u hu => by simp [bv] at hu⟩) H3.out)
    go_enter Try.func57, Try.ntmps57
    go_wp2
    go_ret
    exact G.out
  · have G := hid (take_fin H1.out H2.out H3.out H4.out h5 hnk (show Sl w 1 (a.map fun x => x.add k) (n - k) (c - k) (bv (l.drop k)) by rw [bv_drop]; exact Sl_drop H2.out k hnk) (fun b hb => by
      cases a with
      | none => cases hb
      | some b0 => simp only [Option.map_some, Option.some.injEq] at hb; subst hb; have := H3.out b0 rfl; unfold Addr.add; split <;> exact this))
    go_enter Try.func57, Try.ntmps57
    go_wp2
    go_ret
    exact G.out


/-- Bytes as a number, the least first. -/
def leNum : List UInt8 → Nat
  | [] => 0
  | b :: l => b.toNat + 256 * leNum l
theorem leNum_snoc (l : List UInt8) (b : UInt8) : leNum (l ++ [b]) = leNum l + 2 ^ (8 * l.length) * b.toNat := by
  induction l with
  | nil => simp [leNum]
  | cons a l ih =>
    simp only [List.cons_append, leNum, ih, List.length_cons]
    have e : 2 ^ (8 * (l.length + 1)) = 256 * 2 ^ (8 * l.length) := by rw [Nat.mul_add, Nat.pow_add, Nat.mul_comm]
    rw [e, Nat.mul_add, ← Nat.mul_assoc]
    omega
theorem leNum_lt (l : List UInt8) : leNum l < 2 ^ (8 * l.length) := by
  induction l with
  | nil => simp [leNum]
  | cons a l ih =>
    have := a.toNat_lt
    have e : 2 ^ (8 * (l.length + 1)) = 256 * 2 ^ (8 * l.length) := by rw [Nat.mul_add, Nat.pow_add, Nat.mul_comm]
    simp only [leNum, List.length_cons, e]
    omega

theorem wrap_u64 (n : Int) : IntKind.u64.wrap n = n % 18446744073709551616 := by simp [IntKind.wrap, IntKind.bits, IntKind.signed]
theorem pow_le64 (i : Nat) (hi : i < 8) : 2 ^ (8 * i) * 256 ≤ 18446744073709551616 := by
  have : 2 ^ (8 * i) * 256 = 2 ^ (8 * i + 8) := by rw [Nat.pow_add]
  rw [this]
  exact Nat.pow_le_pow_right (by decide) (show 8 * i + 8 ≤ 64 by omega)
theorem or64 (u c i : Nat) (hu : u < 2 ^ (8 * i)) (hc : c < 256) (hi : i < 8) : bits BinOp.or IntKind.u64 (u : Int) (IntKind.u64.wrap (IntKind.u64.wrap (c : Int) * 2 ^ (8 * i))) = ((u + 2 ^ (8 * i) * c : Nat) : Int) := by
  have hp := pow_le64 i hi
  have h1 : 2 ^ (8 * i) * c < 18446744073709551616 := Nat.lt_of_lt_of_le (Nat.mul_lt_mul_of_pos_left hc (Nat.two_pow_pos _)) hp
  have h2 : u < 18446744073709551616 := by omega
  have e : IntKind.u64.wrap (IntKind.u64.wrap (c : Int) * 2 ^ (8 * i)) = ((2 ^ (8 * i) * c : Nat) : Int) := by
    have e1 : IntKind.u64.wrap (c : Int) = c := by rw [wrap_u64]; omega
    have e2 : (c : Int) * 2 ^ (8 * i) = ((2 ^ (8 * i) * c : Nat) : Int) := by rw [Int.natCast_mul, Int.mul_comm]; simp
    rw [e1, e2, wrap_u64]
    omega
  rw [e, u64_or_nat u _ h2 h1, Nat.or_comm, ← Nat.two_pow_add_eq_or_of_lt hu]
  omega

def NumOk (w : World) (p : Nat) (l : List UInt8) (z : Int) (en : Ending) (w' : World) : Prop :=
  en = .returned (.int .i64 z) ∧ Rd w' p l 0 ∧ Ch (fun k => k = p) w w'
set_option maxRecDepth 100000 in
set_option maxHeartbeats 1000000 in
theorem number_ok (p : Nat) (l : List UInt8) (k : Nat) (w : World) (h : Rd w p l 0) (hk : k ≤ l.length) (hk8 : k ≤ 8) :
    Calls Try.prog 56 #[.pointer (some ⟨p, 0, none⟩), .int .i64 k] w (NumOk w p (l.drop k) (wrap64 (leNum (l.take k) : Nat))) := by
  have H := hid h
  clear h
  have hlk : (l.take k).length = k := by rw [List.length_take]; omega
  have HLK := hid hlk
  clear hlk
  go_enter Try.func56, Try.ntmps56
  go_wp2_with (go_at_call 57; refine (take_ok p l k _ H.out hk).mono ?_; rintro en w1 ⟨a, c, rfl, hs, hr, hc⟩; have S := hid hs; have R := hid hr; have C := hid hc; clear hs hr hc)
  go_loopw [5, 6, 7, 12] (fun vu _ _ vi wr => ∃ i : Nat, i ≤ k ∧ vi = .int .i64 i ∧ vu = .int .u64 (leNum ((l.take k).take i) : Nat) ∧ w1 = wr) (fun _ _ _ vi _ => k - (intOf vi).toNat)
  case atStart => exact ⟨0, by omega, rfl, rfl, rfl⟩
  case round =>
    obtain ⟨i, hi, rfl, rfl, rfl⟩ := hrel
    by_cases hlt : i < k
    · obtain ⟨b, hb⟩ : ∃ b, (l.take k)[i]? = some b := ⟨_, List.getElem?_eq_getElem (by rw [HLK.out]; exact hlt)⟩
      obtain ⟨g, o, rfl⟩ := S.out.spot (by intro e; have := congrArg List.length e; rw [bv_length, HLK.out] at this; simp at this; omega)
      have hcell := S.out.at_ (j := i) (by rw [bv_get, hb]; rfl)
      have e1 : leNum ((l.take k).take (i + 1)) = leNum ((l.take k).take i) + 2 ^ (8 * i) * b.toNat := by
        rw [List.take_add_one, hb]
        simp only [Option.toList]
        rw [leNum_snoc]
        rw [List.length_take, HLK.out, show min i k = i by omega]
      obtain ⟨u, hu⟩ : ∃ u, u = leNum ((l.take k).take i) := ⟨_, rfl⟩
      rw [← hu] at e1 ⊢
      have E1 := hid e1
      have HU := hid hu
      have HB := hid hb
      have hiw : IntKind.i64.wrap (8 * (i : Int)) = 8 * (i : Int) := by rw [IntKind.wrap_i64]; omega
      have hn : decide ((i : Int) < 0) = false := decide_eq_false (by omega)
      have hlt' : (i : Int) < k := by omega
      have hub : u < 2 ^ (8 * i) := by
        have := leNum_lt ((l.take k).take i)
        rw [List.length_take, HLK.out, show min i k = i by omega, ← hu] at this
        exact this
      have OR := or64 u b.toNat i hub b.toNat_lt (by omega)
      rw [← e1] at OR
      clear e1 hu hb hub
      go_wp2
      go_roundw
      case rel => exact ⟨i + 1, by omega, by go_num, by first | rfl | rw [OR], trivial⟩
      case measure => simp [intOf]; omega
    · obtain rfl : i = k := by omega
      have e1 : (l.take i).take i = l.take i := by rw [List.take_take, Nat.min_self]
      rw [e1]
      go_wp2
      go_ret
      exact ⟨rfl, R.out, C.out⟩

def NumBad (w : World) (p : Nat) (l : List UInt8) (e : Int) (en : Ending) (w' : World) : Prop :=
  en = .returned (.int .i64 0) ∧ Rd w' p l (er e 8) ∧ Ch (fun k => k = p) w w'
set_option maxRecDepth 100000 in
set_option maxHeartbeats 1000000 in
theorem number_bad (p : Nat) (l : List UInt8) (e : Int) (k : Nat) (w : World) (h : Rd w p l e) (hb : e ≠ 0 ∨ l.length < k) :
    Calls Try.prog 56 #[.pointer (some ⟨p, 0, none⟩), .int .i64 k] w (NumBad w p l e) := by
  have H := hid h
  have HB := hid hb
  clear h hb
  go_enter Try.func56, Try.ntmps56
  go_wp2_with (go_at_call 57; refine (take_bad p l e k _ H.out HB.out).mono ?_; rintro en w1 ⟨rfl, hr, hc⟩; have R := hid hr; have C := hid hc; clear hr hc)
  go_loopw [5, 6, 7, 12] (fun vu _ _ vi wr => vi = .int .i64 0 ∧ vu = .int .u64 0 ∧ w1 = wr) (fun _ _ _ vi _ => 0)
  case atStart => exact ⟨rfl, rfl, rfl⟩
  case round =>
    obtain ⟨rfl, rfl, rfl⟩ := hrel
    go_wp2
    go_ret
    exact ⟨rfl, R.out, C.out⟩

set_option maxRecDepth 100000 in
set_option maxHeartbeats 1000000 in
theorem rint_ok (p : Nat) (l : List UInt8) (w : World) (h : Rd w p l 0) (hk : 8 ≤ l.length) :
    Calls Try.prog 31 #[.pointer (some ⟨p, 0, none⟩)] w (NumOk w p (l.drop 8) (wrap64 (leNum (l.take 8) : Nat))) := by
  have H := hid h
  clear h
  go_enter Try.func31, Try.ntmps31
  go_wp2_with (go_at_call 56; refine (number_ok p l 8 _ H.out hk (by omega)).mono ?_; rintro en w1 ⟨rfl, hr, hc⟩; have R := hid hr; have C := hid hc; clear hr hc)
  go_ret
  exact ⟨rfl, R.out, C.out⟩
set_option maxRecDepth 100000 in
set_option maxHeartbeats 1000000 in
theorem rint_bad (p : Nat) (l : List UInt8) (e : Int) (w : World) (h : Rd w p l e) (hb : e ≠ 0 ∨ l.length < 8) :
    Calls Try.prog 31 #[.pointer (some ⟨p, 0, none⟩)] w (NumBad w p l e) := by
  have H := hid h
  have HB := hid hb
  clear h hb
  go_enter Try.func31, Try.ntmps31
  go_wp2_with (go_at_call 56; refine (number_bad p l e 8 _ H.out HB.out).mono ?_; rintro en w1 ⟨rfl, hr, hc⟩; have R := hid hr; have C := hid hc; clear hr hc)
  go_ret
  exact ⟨rfl, R.out, C.out⟩
set_option maxRecDepth 100000 in
set_option maxHeartbeats 1000000 in
theorem rbyte_ok (p : Nat) (b : UInt8) (l : List UInt8) (w : World) (h : Rd w p (b :: l) 0) :
    Calls Try.prog 30 #[.pointer (some ⟨p, 0, none⟩)] w (NumOk w p l b.toNat) := by
  have H := hid h
  have hw : wrap64 (leNum ((b :: l).take 1) : Nat) = b.toNat := by have := b.toNat_lt; simp [leNum, wrap64]; omega
  have HW := hid hw
  clear h hw
  go_enter Try.func30, Try.ntmps30
  go_wp2_with (go_at_call 56; refine (number_ok p (b :: l) 1 _ H.out (by simp) (by omega)).mono ?_; rw [HW.out]; rintro en w1 ⟨rfl, hr, hc⟩; have R := hid hr; have C := hid hc; clear hr hc)
  go_ret
  exact ⟨rfl, R.out, C.out⟩
set_option maxRecDepth 100000 in
set_option maxHeartbeats 1000000 in
theorem rbyte_bad (p : Nat) (l : List UInt8) (e : Int) (w : World) (h : Rd w p l e) (hb : e ≠ 0 ∨ l.length < 1) :
    Calls Try.prog 30 #[.pointer (some ⟨p, 0, none⟩)] w (NumBad w p l e) := by
  have H := hid h
  have HB := hid hb
  clear h hb
  go_enter Try.func30, Try.ntmps30
  go_wp2_with (go_at_call 56; refine (number_bad p l e 1 _ H.out HB.out).mono ?_; rintro en w1 ⟨rfl, hr, hc⟩; have R := hid hr; have C := hid hc; clear hr hc)
  go_ret
  exact ⟨rfl, R.out, C.out⟩

/-! ### Text -/
def TextOk (w : World) (p : Nat) (l : List UInt8) (e : Int) (s : List UInt8) (en : Ending) (w' : World) : Prop :=
  en = .returned (.string (str s)) ∧ Rd w' p l e ∧ Ch (fun k => k = p) w w'
set_option maxRecDepth 100000 in
set_option maxHeartbeats 1000000 in
theorem rtext_ok (p : Nat) (l : List UInt8) (w : World) (h : Rd w p l 0) (k : Nat) (h2 : 2 ≤ l.length) (hk : k = leNum (l.take 2)) (hl : k ≤ (l.drop 2).length) :
    Calls Try.prog 32 #[.pointer (some ⟨p, 0, none⟩)] w (TextOk w p ((l.drop 2).drop k) 0 ((l.drop 2).take k)) := by
  have H := hid h
  have hw : wrap64 (leNum (l.take 2) : Nat) = (k : Int) := by
    have h1 := leNum_lt (l.take 2)
    rw [List.length_take, show min 2 l.length = 2 by omega, ← hk] at h1
    rw [← hk]; unfold wrap64; omega
  have HW := hid hw
  have HK := hid hl
  clear h hw hk hl
  go_enter Try.func32, Try.ntmps32
  go_wp2_with (first
    | (go_at_call 56; refine (number_ok p l 2 _ H.out h2 (by omega)).mono ?_; rw [HW.out]; rintro en w1 ⟨rfl, hr, hc⟩; have R := hid hr; have C := hid hc; clear hr hc)
    | (go_at_call 57; refine (take_ok p _ k _ R.out HK.out).mono ?_; rintro en w2 ⟨a, c, rfl, hs, hr, hc⟩; have S := string_of hs w2 rfl; have R2 := hid hr; have C2 := hid hc; clear hs hr hc))
  go_ret
  exact ⟨rfl, R2.out, C.out.trans C2.out (fun _ _ h => h)⟩
theorem string_nil (w : World) : (convert 40 9 (.slice none 0 0)).run Try.prog w = .ok (.string (str [])) w := string_of (l := []) (Sl.nil w 1) w rfl
set_option maxRecDepth 100000 in
set_option maxHeartbeats 1000000 in
theorem rtext_cut (p : Nat) (l : List UInt8) (w : World) (h : Rd w p l 0) (k : Nat) (h2 : 2 ≤ l.length) (hk : k = leNum (l.take 2)) (hl : (l.drop 2).length < k) :
    Calls Try.prog 32 #[.pointer (some ⟨p, 0, none⟩)] w (TextOk w p (l.drop 2) 8 []) := by
  have H := hid h
  have hw : wrap64 (leNum (l.take 2) : Nat) = (k : Int) := by
    have h1 := leNum_lt (l.take 2)
    rw [List.length_take, show min 2 l.length = 2 by omega, ← hk] at h1
    rw [← hk]; unfold wrap64; omega
  have HW := hid hw
  have HK := hid hl
  clear h hw hk hl
  go_enter Try.func32, Try.ntmps32
  go_wp2_with (first
    | (go_at_call 56; refine (number_ok p l 2 _ H.out h2 (by omega)).mono ?_; rw [HW.out]; rintro en w1 ⟨rfl, hr, hc⟩; have R := hid hr; have C := hid hc; clear hr hc)
    | (go_at_call 57; refine (take_bad p _ 0 k _ R.out (.inr HK.out)).mono ?_; rintro en w2 ⟨rfl, hr, hc⟩; have S := string_nil w2; have R2 := hid hr; have C2 := hid hc; clear hr hc))
  go_ret
  exact ⟨rfl, R2.out, C.out.trans C2.out (fun _ _ h => h)⟩
theorem er_er (e : Int) : er (er e 8) 8 = er e 8 := by unfold er; split <;> simp_all
set_option maxRecDepth 100000 in
set_option maxHeartbeats 1000000 in
theorem rtext_bad (p : Nat) (l : List UInt8) (e : Int) (w : World) (h : Rd w p l e) (hb : e ≠ 0 ∨ l.length < 2) :
    Calls Try.prog 32 #[.pointer (some ⟨p, 0, none⟩)] w (TextOk w p l (er e 8) []) := by
  have H := hid h
  have HB := hid hb
  have he8 : er e 8 ≠ 0 := by unfold er; split <;> omega
  have HE := hid he8
  clear h hb he8
  go_enter Try.func32, Try.ntmps32
  go_wp2_with (first
    | (go_at_call 56; refine (number_bad p l e 2 _ H.out HB.out).mono ?_; rintro en w1 ⟨rfl, hr, hc⟩; have R := hid hr; have C := hid hc; clear hr hc)
    | (go_at_call 57; refine (take_bad p _ _ 0 _ R.out (.inl HE.out)).mono ?_; rintro en w2 ⟨rfl, hr, hc⟩; have S := string_nil w2; rw [er_er] at hr; have R2 := hid hr; have C2 := hid hc; clear hr hc))
  go_ret
  exact ⟨rfl, R2.out, C.out.trans C2.out (fun _ _ h => h)⟩

theorem er_ne {e : Int} (h : e ≠ 0) (e' : Int) : er e e' = e := if_neg h
theorem endOf_ne {e : Int} (h : e ≠ 0) (l : List UInt8) : endOf l e = e := by simp [endOf, h]

/-- The document's reader: its cells. -/
def RC (w : World) (q : Nat) (a : Option Addr) (n c : Nat) (P : Nat) (e : Int) : Prop :=
  w.heap[q]? = some (.cells #[.slice a n c, .int .i64 P, .int .i64 e] 77 (0, 0))
def RNewPost (w : World) (a : Option Addr) (n c : Nat) (e : Ending) (w' : World) : Prop :=
  ∃ q, e = .returned (.pointer (some ⟨q, 0, none⟩)) ∧ RC w' q a n c 0 0 ∧ w.heap.size ≤ q ∧ Ch (fun _ => False) w w'
set_option maxRecDepth 100000 in
set_option maxHeartbeats 400000 in
theorem xnew_any (a : Option Addr) (n c : Nat) (w : World) : Calls Try.prog 43 #[.slice a n c] w (RNewPost w a n c) := by
  go_enter Try.func43, Try.ntmps43
  go_wp2
  go_ret
  exact ⟨_, rfl, alloc_blk_new _ rfl, Nat.le_refl _, (Ch.refl _ w).alloc _⟩
def XPost (w : World) (q : Nat) (a : Option Addr) (n c P : Nat) (e : Int) (v : Value) (en : Ending) (w' : World) : Prop := en = .returned v ∧ RC w' q a n c P e ∧ Ch (fun k => k = q) w w'
set_option maxRecDepth 100000 in
set_option maxHeartbeats 400000 in
theorem xfail_any (q : Nat) (a : Option Addr) (n c P : Nat) (e e' : Int) (w : World) (h1 : RC w q a n c P e) :
    Calls Try.prog 45 #[.pointer (some ⟨q, 0, none⟩), .int .i64 e'] w (XPost w q a n c P (er e e') (.tuple #[])) := by
  have c1 : w.cell? ⟨q, 2, none⟩ = some (.int .i64 e) := cell_blk h1 2
  have f1 := frozen_blk h1 2
  by_cases he : e = 0
  · have hst : w.cell? ⟨q, 2, none⟩ = some (.int .i64 0) := by rw [c1, he]
    have G : XPost w q a n c P (er e e') (.tuple #[]) (.returned (.tuple #[])) (w.setCell ⟨q, 2, none⟩ (.int .i64 e')) := by
      refine ⟨rfl, ?_, (Ch.refl _ w).set⟩
      unfold RC; rw [set_blk h1]; simp [er, he]
    have HG := hid G
    clear h1 G c1
    go_enter Try.func45, Try.ntmps45
    go_wp2
    go_end0
    exact HG.out
  · have hb : (e == 0) = false := beq_eq_false_iff_ne.2 he
    have G : XPost w q a n c P (er e e') (.tuple #[]) (.returned (.tuple #[])) w := ⟨rfl, by unfold RC; rw [h1]; simp [er, he], Ch.refl _ _⟩
    have HG := hid G
    clear h1 G
    go_enter Try.func45, Try.ntmps45
    go_wp2
    go_end0
    exact HG.out
set_option maxRecDepth 100000 in
set_option maxHeartbeats 800000 in
theorem xend_any (q : Nat) (a : Option Addr) (n c P : Nat) (e : Int) (L : List UInt8) (w : World) (h1 : RC w q a n c P e) (hL : n = L.length) :
    Calls Try.prog 48 #[.pointer (some ⟨q, 0, none⟩)] w (XPost w q a n c P e (.int .i64 (endOf (L.drop P) e))) := by
  have c0 : w.cell? ⟨q, 0, none⟩ = some (.slice a n c) := cell_blk h1 0
  have c1 : w.cell? ⟨q, 1, none⟩ = some (.int .i64 P) := cell_blk h1 1
  have c2 : w.cell? ⟨q, 2, none⟩ = some (.int .i64 e) := cell_blk h1 2
  have H := hid h1
  clear h1
  by_cases he : e = 0
  · subst he
    rcases Nat.lt_or_ge P n with hp | hp
    · have hpi : (P : Int) < n := by omega
      have hd : L.drop P ≠ [] := by intro h; rw [List.drop_eq_nil_iff] at h; omega
      have HE := hid (show endOf (L.drop P) 0 = 9 by simp [endOf, hd])
      clear hd hL
      go_enter Try.func48, Try.ntmps48
      go_wp2
      go_quiet (fail)
      go_wp2
      go_ret
      exact ⟨by rw [HE.out]; rfl, H.out, (Ch.refl _ w).drewN _⟩
    · have hpi : ¬ ((P : Int) < n) := by omega
      have hd : L.drop P = [] := by rw [List.drop_eq_nil_iff]; omega
      have HE := hid (show endOf (L.drop P) 0 = 0 by simp [endOf, hd])
      clear hd hL
      go_enter Try.func48, Try.ntmps48
      go_wp2
      go_quiet (fail)
      go_wp2
      go_ret
      exact ⟨by rw [HE.out]; rfl, H.out, (Ch.refl _ w).drewN _⟩
  · have hb : (e == 0) = false := beq_eq_false_iff_ne.2 he
    have HE := hid (endOf_ne he (L.drop P))
    clear he hL
    go_enter Try.func48, Try.ntmps48
    go_wp2
    go_quiet (fail)
    go_wp2
    go_ret
    exact ⟨by rw [HE.out]; rfl, H.out, (Ch.refl _ w).drewN _⟩

/-! ### take -/
def XTake (w : World) (q : Nat) (a : Option Addr) (n c P : Nat) (l : List UInt8) (k : Nat) (en : Ending) (w' : World) : Prop :=
  ∃ a' c', en = .returned (.slice a' k c') ∧ Sl w' 1 a' k c' (bv l) ∧ RC w' q a n c P 0 ∧ Ch (fun k => k = q) w w'
set_option maxRecDepth 100000 in
set_option maxHeartbeats 800000 in
theorem xtake_bad (q : Nat) (a : Option Addr) (n c P : Nat) (e : Int) (k : Nat) (w : World) (h1 : RC w q a n c P e) (hP : P ≤ n) (hn : n ≤ 1000000) (hb : e ≠ 0 ∨ n - P < k) :
    Calls Try.prog 59 #[.pointer (some ⟨q, 0, none⟩), .int .i64 k] w (XPost w q a n c P (er e 8) (.slice none 0 0)) := by
  have c0 : w.cell? ⟨q, 0, none⟩ = some (.slice a n c) := cell_blk h1 0
  have c1 : w.cell? ⟨q, 1, none⟩ = some (.int .i64 P) := cell_blk h1 1
  have c2 : w.cell? ⟨q, 2, none⟩ = some (.int .i64 e) := cell_blk h1 2
  have f2 := frozen_blk h1 2
  have H := hid h1
  by_cases he : e = 0
  · subst he
    have hlt : (n : Int) - P < k := by omega
    have hw : IntKind.i64.wrap ((n : Int) - P) = (n : Int) - P := by rw [IntKind.wrap_i64]; omega
    have G : ∀ i, XPost w q a n c P (er 0 8) (.slice none 0 0) (.returned (.slice none 0 0)) ((w.drewN i).setCell ⟨q, 2, none⟩ (.int .i64 8)) := by
      intro i
      refine ⟨rfl, ?_, ((Ch.refl _ w).drewN i).set⟩
      unfold RC; rw [set_blk (w := w.drewN i) h1]; rfl
    have HG := hid G
    clear h1 G hb
    go_enter Try.func59, Try.ntmps59
    go_wp2
    go_quiet (fail)
    go_wp2
    go_ret
    exact HG.out _
  · have hb' : (e == 0) = false := beq_eq_false_iff_ne.2 he
    have G : XPost w q a n c P (er e 8) (.slice none 0 0) (.returned (.slice none 0 0)) w := ⟨rfl, by rw [er_ne he]; exact h1, Ch.refl _ _⟩
    have HG := hid G
    have HE := hid (er_ne he 8)
    clear h1 G hb he
    go_enter Try.func59, Try.ntmps59
    go_wp2
    go_quiet (fail)
    go_wp2
    go_ret
    exact ⟨rfl, by rw [HE.out]; exact H.out, (Ch.refl _ w).drewN _⟩
set_option maxRecDepth 100000 in
set_option maxHeartbeats 800000 in
theorem xtake_ok (q : Nat) (a : Option Addr) (n c P : Nat) (L : List UInt8) (k : Nat) (w : World) (h1 : RC w q a n c P 0) (hn : n ≤ 1000000) (hk : P + k ≤ n) (hS : ∀ w', Ch (fun k => k = q) w w' → Sl w' 1 a n c (bv L)) :
    Calls Try.prog 59 #[.pointer (some ⟨q, 0, none⟩), .int .i64 k] w (XTake w q a n c (P + k) ((L.drop P).take k) k) := by
  have c0 : w.cell? ⟨q, 0, none⟩ = some (.slice a n c) := cell_blk h1 0
  have c1 : w.cell? ⟨q, 1, none⟩ = some (.int .i64 P) := cell_blk h1 1
  have c2 : w.cell? ⟨q, 2, none⟩ = some (.int .i64 0) := cell_blk h1 2
  have f1 := frozen_blk h1 1
  have hlt : ¬ ((n : Int) - P < k) := by omega
  have hw : IntKind.i64.wrap ((n : Int) - P) = (n : Int) - P := by rw [IntKind.wrap_i64]; omega
  have hw2 : IntKind.i64.wrap ((P : Int) + k) = (P : Int) + k := by rw [IntKind.wrap_i64]; omega
  have hw3 : IntKind.i64.wrap ((P : Int) + k - k) = P := by rw [IntKind.wrap_i64]; omega
  have hnc : n ≤ c := (hS w (Ch.refl _ _)).2.1
  have i1 : (0 : Int) ≤ P := by omega
  have i2 : (P : Int) ≤ P + k := by omega
  have i3 : (P : Int) + k ≤ c := by omega
  have i4 : ((P : Int) + k).toNat = P + k := by omega
  have hC : ∀ i j, Ch (fun k => k = q) w (((w.drewN i).setCell ⟨q, 1, none⟩ (.int .i64 ((P : Int) + k))).drewN j) := fun i j => (Ch.set ((Ch.refl _ w).drewN i)).drewN j
  have hR : ∀ i j, RC (((w.drewN i).setCell ⟨q, 1, none⟩ (.int .i64 ((P : Int) + k))).drewN j) q a n c (P + k) 0 := by
    intro i j
    have : ((w.drewN i).setCell ⟨q, 1, none⟩ (.int .i64 ((P : Int) + k))).heap[q]? = _ := set_blk (w := w.drewN i) h1 1 _
    unfold RC
    show ((w.drewN i).setCell ⟨q, 1, none⟩ (.int .i64 ((P : Int) + k))).heap[q]? = _
    rw [this]; simp
  by_cases hcP : c = P
  · have hk0 : k = 0 := by omega
    have G : ∀ i j, XTake w q a n c (P + k) ((L.drop P).take k) k (.returned (.slice a k (c - P))) (((w.drewN i).setCell ⟨q, 1, none⟩ (.int .i64 ((P : Int) + k))).drewN j) := by
      intro i j
      refine ⟨_, _, rfl, ?_, hR i j, hC i j⟩
      subst hk0
      exact ⟨by simp [bv], by omega, by unfold maxLen; omega, fun _ => by omega, fun b hb j u hu => by simp [bv] at hu⟩
    have HG := hid G
    have T1 : (if c = P then a else Option.map (fun x => x.add P) a) = a := if_pos hcP
    have HCP := hid hcP
    have HK0 := hid hk0
    clear h1 hS hC hR G hcP hk0
    go_enter Try.func59, Try.ntmps59
    go_wp2
    go_quiet (fail)
    go_wp2
    go_quiet (fail)
    go_wp2
    go_ret
    exact HG.out _ _
  · have G : ∀ i j, XTake w q a n c (P + k) ((L.drop P).take k) k (.returned (.slice (Option.map (fun x => x.add P) a) k (c - P))) (((w.drewN i).setCell ⟨q, 1, none⟩ (.int .i64 ((P : Int) + k))).drewN j) := by
      intro i j
      refine ⟨_, _, rfl, ?_, hR i j, hC i j⟩
      rw [bv_take, bv_drop]
      exact (Sl_drop (hS _ (hC i j)) P (by omega)).take k (by omega)
    have HG := hid G
    clear h1 hS hC hR G
    go_enter Try.func59, Try.ntmps59
    go_wp2
    go_quiet (fail)
    go_wp2
    go_quiet (fail)
    go_wp2
    go_ret
    exact HG.out _ _


theorem or8 (u c : Nat) (hu : u < 2 ^ 56) (hc : c < 256) : bits BinOp.or IntKind.u64 (IntKind.u64.wrap ((u : Int) * 256)) (IntKind.u64.wrap (c : Int)) = ((c + 256 * u : Nat) : Int) := by
  have e1 : IntKind.u64.wrap ((u : Int) * 256) = ((256 * u : Nat) : Int) := by rw [wrap_u64]; omega
  have e2 : IntKind.u64.wrap (c : Int) = c := by rw [wrap_u64]; omega
  rw [e1, e2, u64_or_nat _ _ (by omega) (by omega)]
  have := Nat.two_pow_add_eq_or_of_lt (i := 8) (b := c) (by omega) u
  rw [show (2 : Nat) ^ 8 = 256 by rfl] at this
  rw [← this]; omega

set_option maxRecDepth 100000 in
set_option maxHeartbeats 800000 in
theorem xbyte_ok (q : Nat) (a : Option Addr) (n c P : Nat) (L : List UInt8) (b : UInt8) (l : List UInt8) (w : World) (h1 : RC w q a n c P 0) (hn : n ≤ 1000000) (hk : P + 1 ≤ n) (hl : L.drop P = b :: l) (hS : ∀ w', Ch (fun k => k = q) w w' → Sl w' 1 a n c (bv L)) :
    Calls Try.prog 44 #[.pointer (some ⟨q, 0, none⟩)] w (XPost w q a n c (P + 1) 0 (.int .i64 b.toNat)) := by
  have H1 := hid h1
  have HS := hid hS
  have e : (L.drop P).take 1 = [b] := by rw [hl]; rfl
  have HE := hid e
  have hb := b.toNat_lt
  have hbw : IntKind.i64.wrap (b.toNat : Int) = b.toNat := by rw [IntKind.wrap_i64]; omega
  clear h1 hS hl e
  go_enter Try.func44, Try.ntmps44
  go_wp2_with (go_at_call 59; refine (xtake_ok q a n c P L 1 _ H1.out hn hk HS.out).mono ?_; rw [HE.out]; rintro en w1 ⟨a', c', rfl, hs, hr, hc⟩; obtain ⟨g, o, rfl⟩ := hs.spot (by simp [bv]); have y0 := hs.at_ (j := 0) (u := .int .u8 (b.toNat : Int)) rfl; simp only [Nat.add_zero] at y0; have R := hid hr; have C := hid hc; clear hs hr hc)
  go_ret
  exact ⟨rfl, R.out, C.out⟩
set_option maxRecDepth 100000 in
set_option maxHeartbeats 800000 in
theorem xbyte_bad (q : Nat) (a : Option Addr) (n c P : Nat) (e : Int) (w : World) (h1 : RC w q a n c P e) (hP : P ≤ n) (hn : n ≤ 1000000) (hb : e ≠ 0 ∨ n - P < 1) :
    Calls Try.prog 44 #[.pointer (some ⟨q, 0, none⟩)] w (XPost w q a n c P (er e 8) (.int .i64 0)) := by
  have H1 := hid h1
  have HB := hid hb
  clear h1 hb
  go_enter Try.func44, Try.ntmps44
  go_wp2_with (go_at_call 59; refine (xtake_bad q a n c P e 1 _ H1.out hP hn HB.out).mono ?_; rintro en w1 ⟨rfl, hr, hc⟩; have R := hid hr; have C := hid hc; clear hr hc)
  go_ret
  exact ⟨rfl, R.out, C.out⟩
set_option maxRecDepth 100000 in
set_option maxHeartbeats 800000 in
theorem xtext_bad (q : Nat) (a : Option Addr) (n c P : Nat) (e : Int) (w : World) (h1 : RC w q a n c P e) (hP : P ≤ n) (hn : n ≤ 1000000) (hb : e ≠ 0 ∨ n - P < 2) :
    Calls Try.prog 47 #[.pointer (some ⟨q, 0, none⟩)] w (XPost w q a n c P (er e 8) (.string (str []))) := by
  have H1 := hid h1
  have HB := hid hb
  clear h1 hb
  go_enter Try.func47, Try.ntmps47
  go_wp2_with (go_at_call 59; refine (xtake_bad q a n c P e 2 _ H1.out hP hn HB.out).mono ?_; rintro en w1 ⟨rfl, hr, hc⟩; have R := hid hr; have C := hid hc; clear hr hc)
  go_ret
  exact ⟨rfl, R.out, C.out⟩
set_option maxRecDepth 100000 in
set_option maxHeartbeats 800000 in
theorem xint_bad (q : Nat) (a : Option Addr) (n c P : Nat) (e : Int) (w : World) (h1 : RC w q a n c P e) (hP : P ≤ n) (hn : n ≤ 1000000) (hb : e ≠ 0 ∨ n - P < 8) :
    Calls Try.prog 46 #[.pointer (some ⟨q, 0, none⟩)] w (XPost w q a n c P (er e 8) (.int .i64 0)) := by
  have H1 := hid h1
  have HB := hid hb
  clear h1 hb
  go_enter Try.func46, Try.ntmps46
  go_wp2_with (go_at_call 59; refine (xtake_bad q a n c P e 8 _ H1.out hP hn HB.out).mono ?_; rintro en w1 ⟨rfl, hr, hc⟩; have R := hid hr; have C := hid hc; clear hr hc)
  go_loopw [3, 5] (fun vu vi wr => vi = .int .i64 (-1) ∧ vu = .int .u64 0 ∧ w1 = wr) (fun _ _ _ => 0)
  case atStart => exact ⟨rfl, rfl, rfl⟩
  case round =>
    obtain ⟨rfl, rfl, rfl⟩ := hrel
    go_wp2
    go_ret
    exact ⟨rfl, R.out, C.out⟩
set_option maxRecDepth 100000 in
set_option maxHeartbeats 800000 in
theorem xint_ok (q : Nat) (a : Option Addr) (n c P : Nat) (L : List UInt8) (w : World) (h1 : RC w q a n c P 0) (hn : n ≤ 1000000) (hnL : n = L.length) (hk : P + 8 ≤ n) (hS : ∀ w', Ch (fun k => k = q) w w' → Sl w' 1 a n c (bv L)) :
    Calls Try.prog 46 #[.pointer (some ⟨q, 0, none⟩)] w (XPost w q a n c (P + 8) 0 (.int .i64 (wrap64 (leNum ((L.drop P).take 8) : Nat)))) := by
  have H1 := hid h1
  have HS := hid hS
  have hl8 : ((L.drop P).take 8).length = 8 := by rw [List.length_take, List.length_drop]; omega
  generalize hM : (L.drop P).take 8 = M at hl8 ⊢
  have HM := hid hM
  have HL := hid hl8
  clear h1 hS hM hl8 hnL
  go_enter Try.func46, Try.ntmps46
  go_wp2_with (go_at_call 59; refine (xtake_ok q a n c P L 8 _ H1.out hn hk HS.out).mono ?_; rw [HM.out]; rintro en w1 ⟨a', c', rfl, hs, hr, hc⟩; have S := hid hs; have R := hid hr; have C := hid hc; clear hs hr hc)
  go_loopw [3, 5] (fun vu vi wr => ∃ j : Nat, j ≤ 8 ∧ vi = .int .i64 ((j : Int) - 1) ∧ vu = .int .u64 (leNum (M.drop j) : Nat) ∧ w1 = wr) (fun _ vi _ => (intOf vi + 1).toNat)
  case atStart => exact ⟨8, by omega, rfl, by rw [List.drop_of_length_le (by rw [HL.out]; omega)]; rfl, rfl⟩
  case round =>
    obtain ⟨j, hj, rfl, rfl, rfl⟩ := hrel
    cases j with
    | zero =>
      rw [List.drop_zero]
      go_wp2
      go_ret
      exact ⟨rfl, R.out, C.out⟩
    | succ i =>
      have hii : (((i + 1 : Nat) : Int) - 1) = (i : Int) := by omega
      rw [hii]
      obtain ⟨b, hb⟩ : ∃ b, M[i]? = some b := ⟨_, List.getElem?_eq_getElem (by rw [HL.out]; omega)⟩
      obtain ⟨g, o, rfl⟩ := S.out.spot (by intro e; have := congrArg List.length e; rw [bv_length, HL.out] at this; simp at this)
      have hcell := S.out.at_ (j := i) (u := .int .u8 (b.toNat : Int)) (by rw [bv_get, hb]; rfl)
      have e1 : leNum (M.drop i) = b.toNat + 256 * leNum (M.drop (i + 1)) := by
        rw [List.drop_eq_getElem_cons (List.getElem?_eq_some_iff.1 hb).1, (List.getElem?_eq_some_iff.1 hb).2]; rfl
      have hlt : leNum (M.drop (i + 1)) < 2 ^ 56 := by
        have h1 := leNum_lt (M.drop (i + 1))
        rw [List.length_drop, HL.out] at h1
        exact Nat.lt_of_lt_of_le h1 (Nat.pow_le_pow_right (by decide) (by omega))
      have OR := or8 _ b.toNat hlt b.toNat_lt
      rw [← e1] at OR
      have i1 : (0 : Int) ≤ i := by omega
      have i2 : (i : Int) < 8 := by omega
      generalize leNum (M.drop (i + 1)) = u at OR ⊢
      clear e1 hlt hb hii
      go_wp2
      go_roundw
      case rel => exact ⟨i, by omega, rfl, rfl, trivial⟩
      case measure => simp [intOf]

/-! ### Text -/
theorem le2 (L : List UInt8) (P : Nat) (b0 b1 : UInt8) (r : List UInt8) (h : L.drop P = b0 :: b1 :: r) : leNum ((L.drop P).take 2) = b0.toNat + 256 * b1.toNat := by rw [h]; simp [leNum]
set_option maxRecDepth 100000 in
set_option maxHeartbeats 1600000 in
theorem xtext_ok (q : Nat) (a : Option Addr) (n c P : Nat) (L : List UInt8) (b0 b1 : UInt8) (r : List UInt8) (k : Nat) (w : World) (h1 : RC w q a n c P 0) (hn : n ≤ 1000000) (hnL : n = L.length) (h2 : P + 2 ≤ n) (hd : L.drop P = b0 :: b1 :: r) (hk : k = b0.toNat + 256 * b1.toNat) (hl : P + 2 + k ≤ n)
    (hS : ∀ w', Ch (fun k => k = q) w w' → Sl w' 1 a n c (bv L)) :
    Calls Try.prog 47 #[.pointer (some ⟨q, 0, none⟩)] w (XPost w q a n c (P + 2 + k) 0 (.string (str ((L.drop (P + 2)).take k)))) := by
  have H1 := hid h1
  have HS := hid hS
  have e : (L.drop P).take 2 = [b0, b1] := by rw [hd]; rfl
  have HE := hid e
  have g0 := b0.toNat_lt
  have g1 := b1.toNat_lt
  have v0 : IntKind.i64.wrap (b0.toNat : Int) = b0.toNat := by rw [IntKind.wrap_i64]; omega
  have v1 : IntKind.i64.wrap (b1.toNat : Int) = b1.toNat := by rw [IntKind.wrap_i64]; omega
  have v2 : IntKind.i64.wrap (256 * (b1.toNat : Int)) = 256 * (b1.toNat : Int) := by rw [IntKind.wrap_i64]; omega
  have v3 : IntKind.i64.wrap ((b0.toNat : Int) + 256 * (b1.toNat : Int)) = (k : Int) := by rw [IntKind.wrap_i64]; omega
  have T := hid True.intro
  clear h1 hS hd e hk
  go_enter Try.func47, Try.ntmps47
  go_wp2_with (go_at_call 59; have T2 := T.out; refine (xtake_ok q a n c P L 2 _ H1.out hn h2 HS.out).mono ?_; rw [HE.out]; rintro en w1 ⟨a', c', rfl, hs, hr, hc⟩; obtain ⟨g, o, rfl⟩ := hs.spot (by simp [bv]); have y0 := hs.at_ (j := 0) (u := .int .u8 (b0.toNat : Int)) rfl; have y1 := hs.at_ (j := 1) (u := .int .u8 (b1.toNat : Int)) rfl; simp only [Nat.add_zero] at y0; have R := hid hr; have C := hid hc; clear hs hr hc T T2)
  have hS1 : ∀ w', Ch (fun k => k = q) w1.drew w' → Sl w' 1 a n c (bv L) := fun w' h => HS.out w' ((C.out.drew).trans h (fun _ _ h => h))
  have R1 : Hid (RC w1.drew q a n c (P + 2) 0) := R
  have CD := hid C.out.drew
  have HS1 := hid hS1
  have y0' : w1.drew.cell? ⟨g, o, none⟩ = some (.int .u8 (b0.toNat : Int)) := y0
  have y1' : w1.drew.cell? ⟨g, o + 1, none⟩ = some (.int .u8 (b1.toNat : Int)) := y1
  clear hS1
  go_region_with (go_at_call 59; refine (xtake_ok q a n c (P + 2) L k _ R1.out hn hl HS1.out).mono ?_; rintro en w2 ⟨a2, c2, rfl, hs, hr, hc⟩; have X := string_of hs w2 rfl; have R2 := hid hr; have C2 := hid (CD.out.trans hc (fun _ _ h => h)); clear hs hr hc)
  all_goals (
    go_wp2
    go_ret
    exact ⟨rfl, R2.out, C2.out⟩)
set_option maxRecDepth 100000 in
set_option maxHeartbeats 1600000 in
theorem xtext_cut (q : Nat) (a : Option Addr) (n c P : Nat) (L : List UInt8) (b0 b1 : UInt8) (r : List UInt8) (k : Nat) (w : World) (h1 : RC w q a n c P 0) (hn : n ≤ 1000000) (hnL : n = L.length) (h2 : P + 2 ≤ n) (hd : L.drop P = b0 :: b1 :: r) (hk : k = b0.toNat + 256 * b1.toNat) (hl : n - (P + 2) < k)
    (hS : ∀ w', Ch (fun k => k = q) w w' → Sl w' 1 a n c (bv L)) :
    Calls Try.prog 47 #[.pointer (some ⟨q, 0, none⟩)] w (XPost w q a n c (P + 2) 8 (.string (str []))) := by
  have H1 := hid h1
  have HS := hid hS
  have e : (L.drop P).take 2 = [b0, b1] := by rw [hd]; rfl
  have HE := hid e
  have g0 := b0.toNat_lt
  have g1 := b1.toNat_lt
  have v0 : IntKind.i64.wrap (b0.toNat : Int) = b0.toNat := by rw [IntKind.wrap_i64]; omega
  have v1 : IntKind.i64.wrap (b1.toNat : Int) = b1.toNat := by rw [IntKind.wrap_i64]; omega
  have v2 : IntKind.i64.wrap (256 * (b1.toNat : Int)) = 256 * (b1.toNat : Int) := by rw [IntKind.wrap_i64]; omega
  have v3 : IntKind.i64.wrap ((b0.toNat : Int) + 256 * (b1.toNat : Int)) = (k : Int) := by rw [IntKind.wrap_i64]; omega
  have T := hid True.intro
  have HLK := hid hl
  clear h1 hS hd e hk
  go_enter Try.func47, Try.ntmps47
  go_wp2_with (go_at_call 59; have T2 := T.out; refine (xtake_ok q a n c P L 2 _ H1.out hn h2 HS.out).mono ?_; rw [HE.out]; rintro en w1 ⟨a', c', rfl, hs, hr, hc⟩; obtain ⟨g, o, rfl⟩ := hs.spot (by simp [bv]); have y0 := hs.at_ (j := 0) (u := .int .u8 (b0.toNat : Int)) rfl; have y1 := hs.at_ (j := 1) (u := .int .u8 (b1.toNat : Int)) rfl; simp only [Nat.add_zero] at y0; have R := hid hr; have C := hid hc; clear hs hr hc T T2)
  have R1 : Hid (RC w1.drew q a n c (P + 2) 0) := R
  have CD := hid C.out.drew
  have y0' : w1.drew.cell? ⟨g, o, none⟩ = some (.int .u8 (b0.toNat : Int)) := y0
  have y1' : w1.drew.cell? ⟨g, o + 1, none⟩ = some (.int .u8 (b1.toNat : Int)) := y1
  go_region_with (go_at_call 59; refine (xtake_bad q a n c (P + 2) 0 k _ R1.out h2 hn (.inr HLK.out)).mono ?_; rintro en w2 ⟨rfl, hr, hc⟩; have X := string_nil w2; have R2 := hid hr; have C2 := hid (CD.out.trans hc (fun _ _ h => h)); clear hr hc)
  all_goals (
    go_wp2
    go_ret
    exact ⟨rfl, R2.out, C2.out⟩)

end Cd
end Go.Proofs.Ytpcgamgjgfdpaaa

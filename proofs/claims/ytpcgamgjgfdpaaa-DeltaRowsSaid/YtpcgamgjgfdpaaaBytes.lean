/- Bytes: what the walks of all chapters share. -/
import Derived.Test.YtpcgamgjgfdpaaaRows
import Derived.Test.YtpcgamgjgfdpaaaMem2
namespace Go.Proofs.Ytpcgamgjgfdpaaa
open Go.RowKit Go.Cx
set_option linter.unusedVariables false
set_option linter.unusedSimpArgs false

theorem et_u8 : ElemT Try.prog 40 5 1 1 (.int .u8 0) := ElemT.mk' Try.underlying40 (by kernel_rfl) rfl (by decide)

theorem bv_zero (n : Nat) : bv (List.replicate n 0) = List.replicate n (Value.int .u8 0) := by
  simp only [bv, List.map_replicate]; rfl

def True_ (w : World) (e : Ending) (w' : World) : Prop := e = .returned (.bool true) ∧ Ch (fun _ => False) w w'

theorem zeros_bv (n : Nat) : List.replicate n (Value.int .u8 0) = bv (List.replicate n 0) := (bv_zero n).symm
theorem string_ofN {w : World} {a : Option Addr} {n c : Nat} {l : List UInt8} (h : Sl w 1 a n c (bv l)) :
    ∀ k, (convert 40 9 (.slice a n c)).run Try.prog (w.drewN k) = .ok (.string (str l)) (w.drewN k) :=
  fun k => h.str_ Try.underlying40 Try.underlying5 Try.underlying9 _ rfl
theorem string_of {w : World} {a : Option Addr} {n c : Nat} {l : List UInt8} (h : Sl w 1 a n c (bv l)) :
    ∀ w' : World, w'.heap = w.heap → (convert 40 9 (.slice a n c)).run Try.prog w' = .ok (.string (str l)) w' :=
  h.str_ Try.underlying40 Try.underlying5 Try.underlying9

/-! ### slices.Clone of bytes -/
/-- A fresh slice: the call's own, of n elements, the cells xs; nothing that was there has turned. -/
def Fresh (w : World) (e : TypeId) (size : Nat) (n : Nat) (xs : List Value) (en : Ending) (w' : World) : Prop :=
  ∃ a' c', en = .returned (.slice a' n c') ∧ Own w' w.heap.size e size a' n c' xs ∧ Ch (fun _ => False) w w'
set_option maxRecDepth 100000 in
set_option maxHeartbeats 400000 in
theorem clone_any (a : Option Addr) (n c : Nat) (xs : List Value) (w : World) (h : Sl w 1 a n c xs) (h1 : ∀ u ∈ xs, u.oneCell' = true) (hn : n ≤ 140737488355328) :
    Calls Try.prog 55 #[.slice a n c] w (Fresh w 5 1 n xs) := by
  have q : ∀ (w : World) (a : Option Addr) (n c n' c' : Nat), (binOp .eql 40 (.slice a n c) (.slice none n' c')).run Try.prog w = .ok (.bool a.isNone) w := fun w a n c n' c' => Lib.run_eql_slice_nil w _ _ a n c n' c' Try.underlying40
  cases a with
  | none =>
    obtain ⟨rfl, rfl, rfl⟩ := h.none_zero
    go_enter Try.func55, Try.ntmps55
    go_wp2
    go_ret
    exact ⟨none, 0, rfl, Own.nil _ _ _ _, Ch.refl _ _⟩
  | some b =>
    have H := hid h
    have H1 := hid h1
    clear h h1
    go_enter Try.func55, Try.ntmps55
    go_wp2_with (at_builtin; refine wpList_app rfl _ _ _ _ rfl w.heap.size 5 1 1 _ et_u8 _ 0 _ [] rfl (World.ownsRow_made w #[] 0 (Nat.le_refl _) (Nat.zero_le _) rfl) _ n xs rfl ((H.out.ch ((Ch.refl (fun _ => False) w).alloc _) (fun _ _ => id)).src Try.underlying40 H1.out) (by unfold maxLen; omega) (by omega) (by simp) ?_; intro a' c' w1 hO hS hC hN; rw [List.nil_append, Nat.zero_add] at hO; have HO := hid hO; have HC := hid hC; clear hO hS hC hN)
    go_ret
    exact ⟨_, _, rfl, by simpa using HO.out, ((Ch.refl _ w).alloc _).trans HC.out (fun i hi ⟨b, hb, he⟩ => by cases hb; have : w.heap.size = i := he; omega)⟩


end Go.Proofs.Ytpcgamgjgfdpaaa

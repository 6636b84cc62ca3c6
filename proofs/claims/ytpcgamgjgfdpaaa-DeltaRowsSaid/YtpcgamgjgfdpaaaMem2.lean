/- More words for memory: rows of bytes, bools. -/
import Derived.Test.YtpcgamgjgfdpaaaMem
namespace Go.Cx
open Go.RowKit

/-- Rows of bytes, in a slice that came in. -/
def RowsAt (w : World) (a : Option Addr) (n c : Nat) (ll : List (List UInt8)) : Prop :=
  ll.length = n ∧ ∃ vs : List Value, Sl w 1 a n c vs ∧ ∀ (i : Nat) (l : List UInt8), ll[i]? = some l → ∃ a' c', vs[i]? = some (Value.slice a' l.length c') ∧ Sl w 1 a' l.length c' (bv l)
theorem RowsAt.below {w w' : World} {a : Option Addr} {n c : Nat} {ll : List (List UInt8)} (h : RowsAt w a n c ll) (hb : Below w.heap.size w w') : RowsAt w' a n c ll := by
  obtain ⟨h1, vs, h2, h3⟩ := h
  exact ⟨h1, vs, h2.below hb, fun i l hl => let ⟨a', c', e1, e2⟩ := h3 i l hl; ⟨a', c', e1, e2.below hb⟩⟩
theorem RowsAt.at_ {w : World} {b o n c : Nat} {ll : List (List UInt8)} (h : RowsAt w (some ⟨b, o, none⟩) n c ll) {i : Nat} {l : List UInt8} (hl : ll[i]? = some l) :
    ∃ a' c', w.cell? ⟨b, o + i, none⟩ = some (Value.slice a' l.length c') ∧ Sl w 1 a' l.length c' (bv l) := by
  obtain ⟨_, vs, h2, h3⟩ := h
  obtain ⟨a', c', e1, e2⟩ := h3 i l hl
  exact ⟨a', c', h2.at_ e1, e2⟩
theorem RowsAt.spot {w : World} {a : Option Addr} {n c : Nat} {ll : List (List UInt8)} (h : RowsAt w a n c ll) (hn : 0 < n) : ∃ b o, a = some ⟨b, o, none⟩ := by
  obtain ⟨_, vs, h2, _⟩ := h
  exact h2.spot (by intro e; have := h2.1; rw [e] at this; simp at this; omega)
/-- Bools as cells. -/
def bbv (l : List Bool) : List Value := l.map fun b => Value.bool b
theorem bbv_length (l : List Bool) : (bbv l).length = l.length := by simp [bbv]
theorem bbv_get (l : List Bool) (j : Nat) : (bbv l)[j]? = (l[j]?).map fun b => Value.bool b := by simp [bbv]


@[go_sem, simp] theorem str_append (a b : List UInt8) : str a ++ str b = str (a ++ b) := by
  simp [str, ByteArray.ext_iff]
@[go_sem, simp] theorem str_extract (a : List UInt8) (i j : Nat) : (str a).extract i j = str ((a.take j).drop i) := by
  simp [str, ByteArray.ext_iff, List.extract_toArray, List.drop_take]

end Go.Cx

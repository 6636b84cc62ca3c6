/- PeopleOrders, as the machine runs it: the call returns true. Conditions: its argument is laid as its type says. -/
import Derived.Test.YtlcnhamcbakfcaaArgS
import Derived.Test.YtlcnhamcbakfcaaPurePeopleOrders
namespace Go.Proofs.Ytlcnhamcbakfcaa
open Go.RowKit Go.ChangeShapes Go.WideShapes Go.ChangeAt
set_option linter.unusedVariables false
set_option linter.unusedSimpArgs false
theorem act_cells {H : Type} {enc : TypeId × Value → H} {w : World} {base : Nat} {spare : Nat → Bool} {held : Bool} {m : Nat} {cs : List Value} {y : DataW H × List MemPlace} (hl : cs.length = 3)
    (h : DataW.trod enc Try.prog w base spare held m 31 cs = some y) : ∃ z : Q.S31, cs = [.int .i64 z.f0.f0, .int .i64 z.f0.f1, .bool z.f1] := by
  match cs, hl with
  | [c0, c1, c2], _ =>
    have k9 : Try.prog.cellsOf 29 = 2 := by kernel_rfl
    have k3 : Try.prog.cellsOf 3 = 1 := by kernel_rfl
    have k4 : Try.prog.cellsOf 4 = 1 := by kernel_rfl
    obtain ⟨y0, y1, n, _, _, h0, h1⟩ := trod_struct2 Try.underlying31 h
    simp only [k9, k4, List.drop_zero, List.drop_succ_cons, List.take_succ_cons, List.take_zero] at h0 h1
    obtain ⟨z0, z1, n', _, _, g0, g1⟩ := trod_struct2 Try.underlying29 h0
    simp only [k3, List.drop_zero, List.drop_succ_cons, List.take_succ_cons, List.take_zero] at g0 g1
    obtain ⟨a, ha, _⟩ := DataW.trod_int Try.underlying3 g0
    obtain ⟨b, hb, _⟩ := DataW.trod_int Try.underlying3 g1
    obtain ⟨c, hc, _⟩ := DataW.trod_bool Try.underlying4 h1
    simp only [List.cons.injEq, and_true] at ha hb hc
    exact ⟨⟨⟨a, b⟩, c⟩, by rw [ha, hb, hc]⟩
def ActsAt (w : World) (a : Option Addr) (n c : Nat) (l : List Q.S31) : Prop := l.length = n ∧ n ≤ c ∧ Go.Proofs.YtlcnhamcbakfcaaW.PrintWords.Kd.C Q.k31 w a n l
theorem acts_row {H : Type} {enc : TypeId × Value → H} {w : World} {base : Nat} {spare : Nat → Bool} {held : Bool} {fuel : Nat} {a : Option Addr} {n c : Nat} {x : DataW H × List MemPlace}
    (h : DataW.trod enc Try.prog w base spare held fuel 22 (Value.slice a n c).cells.toList = some x) : ∃ l, ActsAt w a n c l := by
  obtain ⟨l, h1, h2, h3, h4⟩ := Go.ArgS.elems_row (α := Q.S31) 3 Try.underlying22 (by kernel_rfl) (fun cs z => cs = [.int .i64 z.f0.f0, .int .i64 z.f0.f1, .bool z.f1]) h (fun m cs y hl hy => act_cells hl hy)
  refine ⟨l, h1, h2, h1, h3, fun hn => ?_⟩
  obtain ⟨ad, e, hc⟩ := h4 hn
  refine ⟨ad, e, fun j p hj => ?_⟩
  obtain ⟨cs, q1, q2, q3⟩ := hc j p hj
  exact ⟨cs, q1, by rw [q2]; exact Q.k31_mk w p, q3⟩
theorem PeopleOrders_walk (w : World) (a : Option Addr) (n c : Nat) (l : List Q.S31) (h : ActsAt w a n c l) (b : Int) :
    Calls Try.prog 3 #[.slice a n c, .int .i64 b] w fun e w' => e = .returned (.bool true) ∧ Below w.heap.size w w' := by
  obtain ⟨rfl, h2, h3⟩ := h
  obtain ⟨k, hk⟩ := Pure.PeopleOrders_true l b h3.2.1
  exact Q.comitialaw12_PeopleOrders.calls k a c l b true w h3 h2 hk
end Go.Proofs.Ytlcnhamcbakfcaa

/- The statement TransformPairs, once the machine's side is told by the printed contracts: it holds of the Lean functions of the Go functions. Conditions: none. -/
import Derived.Test.YtjmnflgicolbdaaQE7
import Derived.Test.YtjmnflgicolbdaaQxcomitialaw7TransformPairs
namespace Go.Proofs.Ytjmnflgicolbdaa.Pure
open Go.OpM Go.RowKit Go.Cx Go.Proofs.Ytjmnflgicolbdaa.Q Go.Proofs.YtjmnflgicolbdaaW.PrintWords Go.Proofs.YtjmnflgicolbdaaW.PrintLast Go.Proofs.YtjmnflgicolbdaaW.PrintMore
set_option linter.unusedVariables false
set_option linter.unusedSimpArgs false

theorem two_the_same (a b : List S43) : comitiaref7_Pair.f a b = transform_Pair.f a b := rfl
theorem pairs_len {x y : List S43} {n m : Nat} (hx : Made n x) (hy : Made m y) (hn : n ≤ 120) (hm : m ≤ 120) :
    ∃ X Y e, transform_Pair.f x y = some (X, Y, e) ∧ X.length ≤ 300003 ∧ Y.length ≤ 300003 := by
  have hxi := hx.ins
  have hyi := hy.ins
  have hxo := hx.outs
  have hyo := hy.outs
  have hg2 : good2 (cms x) (cms y) = true := good2_mk hx.vl hy.vl (by omega)
  rw [tpair_eq hg2]
  by_cases h : inC (cms x) = inC (cms y)
  · rw [if_pos h]
    have P := pf (a := at_ (cms x)) (b := at_ (cms y)) h
    have p1 := P.ix
    have p2 := P.iy
    have p3 := P.xy
    have p4 := P.le
    unfold inC outC at *
    refine ⟨_, _, _, rfl, ?_, ?_⟩
    · exact normal_len (by omega)
    · exact normal_len (by omega)
  · rw [if_neg h]
    exact ⟨_, _, _, rfl, by simp, by simp⟩
theorem one_round (k : Nat) (hk : 400000 ≤ k) (l2 : List Int) (a3 i : Int) (d : ByteArray) {x y : List S43} {n m : Nat} (hx : Made n x) (hy : Made m y) (hn : n ≤ 120) (hm : m ≤ 120) :
    comitialaw7_TransformPairs.j1 (k + 1) l2 a3 d x i y = comitialaw7_TransformPairs.l0 k l2 a3 d x (wrap64 (i + 1)) := by
  obtain ⟨X, Y, e, h, hX, hY⟩ := pairs_len hx hy hn hm
  simp only [comitialaw7_TransformPairs.j1]
  rw [two_the_same, h]
  simp only [Option.bind_some]
  rw [rsame_refl X (by omega) k (by omega)]
  simp only [Option.bind_some, if_true]
  rw [rsame_refl Y (by omega) k (by omega)]
  simp only [Option.bind_some, if_true]
theorem TransformPairs : comitialaw7_TransformPairs.Pure := by
  intro l0 l1 l2 a3
  intros
  obtain ⟨d, hd, hdl⟩ := few_eq l0
  obtain ⟨x, hx, hxm, _⟩ := make_eq d.length (by omega) l1
  obtain ⟨y, hy, hym, _⟩ := make_eq d.length (by omega) l2
  obtain ⟨m, hm⟩ : ∃ m : Nat, (m : Int) = mn (mx (Int.tmod a3 60) 0) 59 := ⟨(mn (mx (Int.tmod a3 60) 0) 59).toNat, by rw [mn_eq, mx_eq]; omega⟩
  have hm59 : m ≤ 59 := by rw [mn_eq, mx_eq] at hm; omega
  obtain ⟨z, hz, hzm, _⟩ := make_eq m (by omega) l2
  refine ⟨400000 + 5, ?_⟩
  unfold comitialaw7_TransformPairs.f
  rw [known7_true _ (by omega)]
  simp only [Option.bind_some, if_true, hd, ba_size]
  rw [hx _ (by omega)]
  simp only [Option.bind_some]
  show comitialaw7_TransformPairs.l0 (400004 + 1) l2 a3 _ x 0 = some true
  simp only [comitialaw7_TransformPairs.l0]
  rw [if_pos (by omega), ba_size, hy _ (by omega)]
  simp only [Option.bind_some]
  rw [if_neg (by omega)]
  rw [show (400004 : Nat) = 400003 + 1 from rfl, one_round 400003 (by omega) l2 a3 0 _ hxm hym (by omega) (by omega), show wrap64 ((0 : Int) + 1) = 1 from by unfold wrap64; decide]
  show comitialaw7_TransformPairs.l0 (400002 + 1) l2 a3 _ x 1 = some true
  simp only [comitialaw7_TransformPairs.l0]
  rw [if_pos (by omega), ba_size, hy _ (by omega)]
  simp only [Option.bind_some]
  rw [if_pos trivial, ← hm, hz _ (by omega)]
  simp only [Option.bind_some]
  rw [show (400002 : Nat) = 400001 + 1 from rfl, one_round 400001 (by omega) l2 a3 1 _ hxm hzm (by omega) (by omega), show wrap64 ((1 : Int) + 1) = 2 from by unfold wrap64; decide]
  show comitialaw7_TransformPairs.l0 (400000 + 1) l2 a3 _ x 2 = some true
  simp only [comitialaw7_TransformPairs.l0]
  rw [if_neg (by omega)]
end Go.Proofs.Ytjmnflgicolbdaa.Pure

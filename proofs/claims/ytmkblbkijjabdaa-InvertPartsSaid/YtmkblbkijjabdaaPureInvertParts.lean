/- The statement InvertParts, once the machine's side is told by the printed contracts: it holds of the Lean functions of the Go functions. Conditions: none. -/
import Derived.Test.YtmkblbkijjabdaaQK6
import Derived.Test.YtmkblbkijjabdaaQxcomitialaw6InvertParts
namespace Go.Proofs.Ytmkblbkijjabdaa.Pure
open Go.OpM Go.RowKit Go.Cx Go.Proofs.Ytmkblbkijjabdaa.Q Go.Proofs.YtmkblbkijjabdaaW.PrintWords Go.Proofs.YtmkblbkijjabdaaW.PrintLast Go.Proofs.YtmkblbkijjabdaaW.PrintMore
set_option linter.unusedVariables false
set_option linter.unusedSimpArgs false

theorem InvertParts : comitialaw6_InvertParts.Pure := by
  intro l0 l1 l2 _ _ _ _ _ _ _ _ _
  unfold comitialaw6_InvertParts.f
  rw [known6_true]
  simp only [Option.bind_some, if_true]
  by_cases c0 : (l0.length : Int) = 0
  · rw [if_pos c0]
  rw [if_neg c0]
  by_cases c1 : (l1.length : Int) = 0
  · rw [if_pos c1]
  rw [if_neg c1]
  by_cases c2 : (l2.length : Int) = 0
  · rw [if_pos c2]
  rw [if_neg c2]
  have hm : l0.length ≤ 4398046511104 * 100 ∧ l1.length ≤ 4398046511104 * 100 ∧ l2.length ≤ 4398046511104 * 100 := by omega
  rw [w64 (x := (l0.length : Int) + (l1.length : Int)) (by omega) (by omega), w64 (by omega) (by omega)]
  by_cases c3 : (l0.length : Int) + (l1.length : Int) + (l2.length : Int) > 100
  · rw [if_pos c3]
  rw [if_neg c3]
  obtain ⟨a, ha, hal⟩ := nums_str l0
  obtain ⟨b, hb, hbl⟩ := nums_str l1
  obtain ⟨s, hs, hsl⟩ := nums_str l2
  rw [ha, hb, hs, ba_app, ba_size, ba_size, if_pos (by omega), ← hal, ← hbl, ← hsl]
  have hz : s ≠ [] := by intro h; rw [h] at hsl; simp at hsl; omega
  have hbz : b ≠ [] := by intro h; rw [h] at hbl; simp at hbl; omega
  have hat : at_ (cms [(⟨1, (a.length : Int), (⟨#[]⟩ : ByteArray)⟩ : S42), ⟨2, 0, (⟨s.toArray⟩ : ByteArray)⟩, ⟨3, (b.length : Int), (⟨#[]⟩ : ByteArray)⟩]) = keeps a.length ++ (puts s ++ cuts b.length) := by
    show Cm.at_ ⟨1, a.length, []⟩ ++ (Cm.at_ ⟨2, 0, s⟩ ++ (Cm.at_ ⟨3, b.length, []⟩ ++ [])) = _
    rw [at_keep, at_put, at_cut, List.append_nil]
  have hg : good (cms [(⟨1, (a.length : Int), (⟨#[]⟩ : ByteArray)⟩ : S42), ⟨2, 0, (⟨s.toArray⟩ : ByteArray)⟩, ⟨3, (b.length : Int), (⟨#[]⟩ : ByteArray)⟩]) = true := by
    refine good_iff.2 ⟨Vl.cons (c := ⟨1, a.length, []⟩) (keep_ok (by omega)) (Vl.cons (c := ⟨2, 0, s⟩) (put_ok hz) (Vl.cons (c := ⟨3, b.length, []⟩) (cut_ok (by omega)) Vl.nil)), ?_⟩
    unfold inC outC
    rw [hat]
    simp
    omega
  have hin : inC (cms [(⟨1, (a.length : Int), (⟨#[]⟩ : ByteArray)⟩ : S42), ⟨2, 0, (⟨s.toArray⟩ : ByteArray)⟩, ⟨3, (b.length : Int), (⟨#[]⟩ : ByteArray)⟩]) = (a ++ b).length := by
    unfold inC
    rw [hat]
    simp
  rw [invert_eq _ _ hg (by simp; omega), if_pos hin, hat]
  have hinv : inv (keeps a.length ++ (puts s ++ cuts b.length)) (a ++ b) = keeps a.length ++ (cuts s.length ++ puts b) := by
    rw [inv_append, inv_append, inv_keeps, inv_puts, inv_cuts]
    simp
  have hnf : nf (keeps a.length ++ (cuts s.length ++ puts b)) = [⟨1, a.length, []⟩, ⟨2, 0, b⟩, ⟨3, s.length, []⟩] := by
    have e : cuts s.length ++ puts b = cuts s.length ++ (puts b ++ []) := by simp
    unfold nf
    rw [nfGo_keeps0, e, nfGo_cuts, nfGo_puts]
    simp only [nfGo, List.nil_append, Nat.zero_add]
    unfold kp pp cp
    rw [if_neg (by omega), if_neg hbz, if_neg (by omega)]
    rfl
  rw [hinv, hnf]
  simp only [Option.bind_some, scs, List.map_cons, List.map_nil, sc]
  have bl : (⟨b.toArray⟩ : ByteArray).toList = b := ba_list b
  simp [rd_T42, bl]
end Go.Proofs.Ytmkblbkijjabdaa.Pure

/- The references' In, Out, Same in plain words. -/
import Derived.Test.YtmkblbkijjabdaaQM
import Derived.Test.YtmkblbkijjabdaaQxcomitiaref4In
import Derived.Test.YtmkblbkijjabdaaQxcomitiaref4Out
namespace Go.Proofs.Ytmkblbkijjabdaa.Q
open Go.OpM Go.RowKit Go.Cx Go.Proofs.YtmkblbkijjabdaaW.PrintWords Go.Proofs.YtmkblbkijjabdaaW.PrintLast Go.Proofs.YtmkblbkijjabdaaW.PrintMore
set_option linter.unusedVariables false
set_option linter.unusedSimpArgs false

theorem ins_one {c : Cm} (h : c.ok) : (ins c.at_ : Int) = if c.k = 2 then 0 else c.n := by
  rcases Cm.cases h with ⟨n, hn, rfl⟩ | ⟨s, hs, rfl⟩ | ⟨n, hn, rfl⟩ <;> simp
theorem outs_one {c : Cm} (h : c.ok) : (outs c.at_ : Int) = (if c.k = 1 then c.n else 0) + c.s.length := by
  rcases Cm.cases h with ⟨n, hn, rfl⟩ | ⟨s, hs, rfl⟩ | ⟨n, hn, rfl⟩ <;> simp
theorem in_loop (l s : List S42) : ∀ (p : List S42) (acc k : Nat), l = p ++ s → Vl (cms s) → l.length ≤ 1000000 → acc + inC (cms s) ≤ 1000000 → s.length < k →
    comitiaref4_In.l0 k l acc (p.length : Int) = some ((acc + inC (cms s) : Nat) : Int) := by
  induction s with
  | nil =>
    intro p acc k hl hv h0 h1 hk
    obtain ⟨k, rfl⟩ : ∃ m, k = m + 1 := ⟨k - 1, by omega⟩
    have hpl : p.length = l.length := by rw [hl]; simp
    simp only [comitiaref4_In.l0]
    rw [if_neg (by omega)]
    simp [cms, inC, ins]
  | cons c s ih =>
    intro p acc k hl hv h0 h1 hk
    obtain ⟨k, rfl⟩ : ∃ m, k = m + 1 := ⟨k - 1, by omega⟩
    have hpl : p.length < l.length := by rw [hl]; simp
    have hrd : rd_T42 l (p.length : Int) = c := by rw [hl]; exact rd_mid p c s
    have hc : (cm c).ok := hv.head (c := cm c) (l := cms s)
    have hi := ins_one hc
    have hin : inC (cms (c :: s)) = ins (cm c).at_ + inC (cms s) := by simp [cms, inC]
    have he : (p ++ [c]).length = p.length + 1 := by simp
    rw [hin] at h1 ⊢
    simp only [List.length_cons] at hk
    have := ih (p ++ [c]) (acc + ins (cm c).at_) k (by simp [hl]) (Vl.tail (c := cm c) hv) h0 (by omega) (by omega)
    rw [he] at this
    simp only [comitiaref4_In.l0]
    rw [if_pos (by omega), if_pos (by omega), hrd, w_succ _ (by omega)]
    by_cases h2 : c.f0 = 2
    · rw [if_pos h2]
      have e1 : (ins (cm c).at_ : Int) = 0 := by rw [hi]; exact if_pos h2
      have e0 : ins (cm c).at_ = 0 := by omega
      rw [e0, Nat.add_zero] at this
      rw [e0, Nat.zero_add]
      exact this
    · rw [if_neg h2]
      have hn : (ins (cm c).at_ : Int) = c.f1 := by rw [hi]; exact if_neg h2
      rw [← hn, w64 (by omega) (by omega)]
      rw [Nat.add_assoc] at this
      exact this
theorem ref_in (l : List S42) (h : good (cms l) = true) (k : Nat) (hk : l.length < k) : comitiaref4_In.f k l = some ((inC (cms l) : Nat) : Int) := by
  have h1 := (good_iff.1 h).2
  have := in_loop l l [] 0 k rfl (good_iff.1 h).1 (by have := good_len h; omega) (by omega) hk
  unfold comitiaref4_In.f
  simpa using this
theorem out_loop (l s : List S42) : ∀ (p : List S42) (acc k : Nat), l = p ++ s → Vl (cms s) → l.length ≤ 1000000 → acc + outC (cms s) ≤ 1000000 → s.length < k →
    comitiaref4_Out.l0 k l acc (p.length : Int) = some ((acc + outC (cms s) : Nat) : Int) := by
  induction s with
  | nil =>
    intro p acc k hl hv h0 h1 hk
    obtain ⟨k, rfl⟩ : ∃ m, k = m + 1 := ⟨k - 1, by omega⟩
    have hpl : p.length = l.length := by rw [hl]; simp
    simp only [comitiaref4_Out.l0]
    rw [if_neg (by omega)]
    simp [cms, outC, outs]
  | cons c s ih =>
    intro p acc k hl hv h0 h1 hk
    obtain ⟨k, rfl⟩ : ∃ m, k = m + 1 := ⟨k - 1, by omega⟩
    have hpl : p.length < l.length := by rw [hl]; simp
    have hrd : rd_T42 l (p.length : Int) = c := by rw [hl]; exact rd_mid p c s
    have hc : (cm c).ok := hv.head (c := cm c) (l := cms s)
    have ho := outs_one hc
    have hz : (c.f2.size : Int) = ((cm c).s.length : Int) := by simp [cm]
    have hin : outC (cms (c :: s)) = outs (cm c).at_ + outC (cms s) := by simp [cms, outC]
    have he : (p ++ [c]).length = p.length + 1 := by simp
    rw [hin] at h1 ⊢
    simp only [List.length_cons] at hk
    have := ih (p ++ [c]) (acc + outs (cm c).at_) k (by simp [hl]) (Vl.tail (c := cm c) hv) h0 (by omega) (by omega)
    rw [he, Nat.add_assoc] at this
    simp only [comitiaref4_Out.l0]
    rw [if_pos (by omega), if_pos (by omega), hrd, w_succ _ (by omega), hz]
    have f1 : (cm c).n = c.f1 := rfl
    have f0 : (cm c).k = c.f0 := rfl
    rw [f1, f0] at ho
    have hnn : 0 ≤ c.f1 := by rcases hc with ⟨_, h, _⟩ | ⟨_, h, _⟩ | ⟨_, h, _⟩ <;> (have h' : _ := h; rw [f1] at h'; omega)
    by_cases h2 : c.f0 = 1
    · rw [if_pos h2] at ho ⊢
      rw [w64 (x := (acc : Int) + c.f1) (by omega) (by omega), w64 (by omega) (by omega), Int.add_assoc, ← ho]
      exact this
    · rw [if_neg h2] at ho ⊢
      rw [Int.zero_add] at ho
      rw [w64 (by omega) (by omega), ← ho]
      exact this
theorem ref_out (l : List S42) (h : good (cms l) = true) (k : Nat) (hk : l.length < k) : comitiaref4_Out.f k l = some ((outC (cms l) : Nat) : Int) := by
  have h1 := (good_iff.1 h).2
  have := out_loop l l [] 0 k rfl (good_iff.1 h).1 (by have := good_len h; omega) (by omega) hk
  unfold comitiaref4_Out.f
  simpa using this
end Go.Proofs.Ytmkblbkijjabdaa.Q

/- The reference's Apply in plain words. -/
import Derived.Test.YtmkblbkijjabdaaQR
import Derived.Test.YtmkblbkijjabdaaQxcomitiaref4Apply
namespace Go.Proofs.Ytmkblbkijjabdaa.Q
open Go.OpM Go.RowKit Go.Cx Go.Proofs.YtmkblbkijjabdaaW.PrintWords Go.Proofs.YtmkblbkijjabdaaW.PrintLast Go.Proofs.YtmkblbkijjabdaaW.PrintMore
set_option linter.unusedVariables false
set_option linter.unusedSimpArgs false

theorem ext_str (d : List UInt8) (a b : Nat) : (⟨d.toArray⟩ : ByteArray).extract a b = ⟨((d.drop a).take (b - a)).toArray⟩ := by
  apply ByteArray.ext
  simp [ByteArray.data_extract, List.extract_toArray, List.extract_eq_take_drop]
theorem apply_loop (d : List UInt8) (l s : List S42) : ∀ (p : List S42) (out : List UInt8) (at' k : Nat), l = p ++ s → Vl (cms s) → l.length ≤ 1000000 → d.length ≤ 1000000 → at' + inC (cms s) = d.length → out.length + outC (cms s) ≤ 1000000 → s.length < k →
    comitiaref4_Apply.l0 k ⟨d.toArray⟩ l ⟨out.toArray⟩ at' (p.length : Int) = some (⟨(out ++ app id (at_ (cms s)) (d.drop at')).toArray⟩, 0) := by
  induction s with
  | nil =>
    intro p out at' k hl hv h0 hd h1 h2 hk
    obtain ⟨k, rfl⟩ : ∃ m, k = m + 1 := ⟨k - 1, by omega⟩
    have hpl : p.length = l.length := by rw [hl]; simp
    simp only [comitiaref4_Apply.l0]
    rw [if_neg (by omega)]
    simp [cms, app]
  | cons c s ih =>
    intro p out at' k hl hv h0 hd h1 h2 hk
    obtain ⟨k, rfl⟩ : ∃ m, k = m + 1 := ⟨k - 1, by omega⟩
    have hpl : p.length < l.length := by rw [hl]; simp
    have hrd : rd_T42 l (p.length : Int) = c := by rw [hl]; exact rd_mid p c s
    have hin : inC (cms (c :: s)) = ins (cm c).at_ + inC (cms s) := by simp [cms, inC]
    have hout : outC (cms (c :: s)) = outs (cm c).at_ + outC (cms s) := by simp [cms, outC]
    have hat : at_ (cms (c :: s)) = (cm c).at_ ++ at_ (cms s) := rfl
    have he : (p ++ [c]).length = p.length + 1 := by simp
    have hvs : Vl (cms s) := Vl.tail (c := cm c) hv
    have hle : ins (cm c).at_ ≤ (d.drop at').length := by rw [List.length_drop]; omega
    rw [hin] at h1
    rw [hout] at h2
    rw [hat, app_append _ _ _ _ hle, List.drop_drop]
    simp only [List.length_cons] at hk
    simp only [comitiaref4_Apply.l0]
    rw [if_pos (by omega), if_pos (by omega), hrd, w_succ _ (by omega)]
    rcases Cm.cases (hv.head (c := cm c) (l := cms s)) with ⟨n, hn, hc⟩ | ⟨q, hq, hc⟩ | ⟨n, hn, hc⟩
    · have hc' : c = ⟨1, n, ⟨#[]⟩⟩ := by rw [← sc_cm c, hc]; rfl
      rw [hc] at h1 h2 hle ⊢
      simp only [at_keep, ins_keeps, outs_keeps] at h1 h2 hle ⊢
      have ih' := ih (p ++ [c]) (out ++ (d.drop at').take n) (at' + n) k (by simp [hl]) hvs h0 hd (by omega) (by simp only [List.length_append, List.length_take]; omega) (by omega)
      rw [he] at ih'
      rw [hc'] 
      simp only
      rw [w64 (by omega) (by omega), if_pos trivial, if_pos (by omega), if_pos (by omega), if_pos (by rw [ba_size]; omega)]
      have e1 : ((at' : Int)).toNat = at' := by omega
      have e2 : ((at' : Int) + (n : Int)).toNat = at' + n := by omega
      have e3 : at' + n - at' = n := by omega
      rw [e1, e2, ext_str, e3, if_pos (by rw [ba_size, ba_size, List.length_take, List.length_drop]; omega), ba_app, show ((at' : Int) + (n : Int)) = ((at' + n : Nat) : Int) from by omega, ih', app_keeps _ _ _ hle]
      simp
    · have hc' : c = ⟨2, 0, ⟨q.toArray⟩⟩ := by rw [← sc_cm c, hc]; rfl
      rw [hc] at h1 h2 hle ⊢
      simp only [at_put, ins_puts, outs_puts] at h1 h2 hle ⊢
      have ih' := ih (p ++ [c]) (out ++ q) at' k (by simp [hl]) hvs h0 hd (by omega) (by simp only [List.length_append]; omega) (by omega)
      rw [he] at ih'
      rw [hc']
      simp only
      rw [if_neg (by decide), if_pos trivial, if_pos (by rw [ba_size, ba_size]; omega), ba_app, ih', app_puts]
      simp
    · have hc' : c = ⟨3, n, ⟨#[]⟩⟩ := by rw [← sc_cm c, hc]; rfl
      rw [hc] at h1 h2 hle ⊢
      simp only [at_cut, ins_cuts, outs_cuts] at h1 h2 hle ⊢
      have ih' := ih (p ++ [c]) out (at' + n) k (by simp [hl]) hvs h0 hd (by omega) (by omega) (by omega)
      rw [he] at ih'
      rw [hc']
      simp only
      rw [w64 (by omega) (by omega), if_neg (by decide), if_neg (by decide), show ((at' : Int) + (n : Int)) = ((at' + n : Nat) : Int) from by omega, ih', app_cuts]
      simp
/-- What Apply answers. -/
theorem ref_apply (d : List UInt8) (l : List S42) (h : good (cms l) = true) (hd : d.length ≤ 100000) (k : Nat) (hk : l.length < k) : comitiaref4_Apply.f k ⟨d.toArray⟩ l =
    some (if inC (cms l) = d.length then (if outC (cms l) ≤ 120 then (⟨(app id (at_ (cms l)) d).toArray⟩, 0) else (⟨#[]⟩, 5)) else (⟨#[]⟩, 7)) := by
  have h1 := (good_iff.1 h).2
  unfold comitiaref4_Apply.f
  rw [ref_in l h k hk, ref_out l h k hk]
  simp only [Option.bind_some, ba_size]
  by_cases hi : inC (cms l) = d.length
  · rw [if_pos (by omega), if_pos hi]
    by_cases ho : outC (cms l) ≤ 120
    · rw [if_neg (by omega), if_pos ho]
      have := apply_loop d l l [] [] 0 k rfl (good_iff.1 h).1 (by have := good_len h; omega) (by omega) (by omega) (by simp; omega) hk
      simpa using this
    · rw [if_pos (by omega), if_neg ho]
  · rw [if_neg (by omega), if_neg hi]
end Go.Proofs.Ytmkblbkijjabdaa.Q

/- PeopleOrders, once the machine's side is told by the contracts: it holds of the Lean functions of the Go functions. Conditions: none. -/
import Derived.Test.YtlcnhamcbakfcaaQxcomitialaw12PeopleOrders
namespace Go.Proofs.Ytlcnhamcbakfcaa.Pure
open Go.OpM Go.RowKit Go.Cx Go.Proofs.Ytlcnhamcbakfcaa.Q Go.Proofs.YtlcnhamcbakfcaaW.PrintWords Go.Proofs.YtlcnhamcbakfcaaW.PrintLast Go.Proofs.YtlcnhamcbakfcaaW.PrintMore
set_option linter.unusedVariables false
set_option linter.unusedSimpArgs false

theorem w64 {x : Int} (h0 : -9223372036854775808 ≤ x) (h1 : x ≤ 9223372036854775807) : wrap64 x = x := by unfold wrap64; omega
theorem mn_eq (a b : Int) : mn a b = min a b := by unfold mn; split <;> omega
theorem within_eq (a n : Int) (h0 : 0 < n) (h1 : n ≤ 1000000000000) : comitialaw12_within.f a n = some (a % n) := by
  unfold comitialaw12_within.f
  rw [if_neg (by omega)]
  have e := Int.tmod_eq_emod (a := a) (b := n)
  have p1 := Int.emod_nonneg a (by omega : n ≠ 0)
  have p2 := Int.emod_lt_of_pos a h0
  by_cases hd : n ∣ a
  · have e0 : a % n = 0 := Int.emod_eq_zero_of_dvd hd
    have : a.tmod n = 0 := by rw [e]; simp [hd, e0]
    rw [this, if_neg (by omega), e0]
  · by_cases ha : 0 ≤ a
    · have : a.tmod n = a % n := by rw [e]; simp [ha]
      rw [this, if_neg (by omega)]
    · have : a.tmod n = a % n - n := by
        rw [e, if_neg (by simp [ha, hd])]
        omega
      rw [this, if_pos (by omega), w64 (by omega) (by omega)]
      congr 1; omega
theorem user_any (x : S31) : ∃ u : U, comitialaw12_Act_user.f x.f0.f0 x.f0.f1 x.f1 = some (u.f0, u.f1) := by
  unfold comitialaw12_Act_user.f
  split
  · exact ⟨x.f0, rfl⟩
  · rw [within_eq _ 3 (by omega) (by omega), within_eq _ 4 (by omega) (by omega)]
    exact ⟨⟨_, _⟩, rfl⟩
theorem valid_any (a b : Int) : ∃ v, people_user.f a b = some v := by
  unfold people_user.f
  split
  · split
    · split
      · exact ⟨_, rfl⟩
      · exact ⟨_, rfl⟩
    · exact ⟨_, rfl⟩
  · exact ⟨_, rfl⟩
def vl (u : U) : Prop := people_user.f u.f0 u.f1 = some true
/-- Who stands there, behind some that came. -/
structure St (l : List U) (M : List U) : Prop where
  sort : SortU l
  mem : ∀ x, x ∈ l ↔ vl x ∧ x ∈ M
  len : l.length ≤ M.length
theorem St.nil : St [] [] := ⟨List.Pairwise.nil, fun x => by simp, Nat.le_refl _⟩
theorem St.add {l M : List U} (h : St l M) (u : U) (hM : M.length < 8) : ∃ l' e, people_Add.f l u.f0 u.f1 = some (l', e) ∧ St l' (M ++ [u]) := by
  have hl := h.len
  unfold people_Add.f
  rw [if_pos (by omega)]
  obtain ⟨v, hv⟩ := valid_any u.f0 u.f1
  rw [hv]
  simp only [Option.bind_some]
  have hu : (⟨u.f0, u.f1⟩ : U) = u := rfl
  rw [hu]
  cases v with
  | false =>
    rw [if_neg (by decide)]
    refine ⟨l, 1, rfl, h.sort, fun x => ?_, by simp; omega⟩
    rw [h.mem x]
    simp only [List.mem_append, List.mem_singleton]
    constructor
    · rintro ⟨h1, h2⟩; exact ⟨h1, .inl h2⟩
    · rintro ⟨h1, h2 | rfl⟩
      · exact ⟨h1, h2⟩
      · exact absurd (h1.symm.trans hv) (by simp)
  | true =>
    rw [if_pos rfl]
    by_cases hf : (fnd l u).2 = true
    · rw [if_pos hf]
      refine ⟨l, 12, rfl, h.sort, fun x => ?_, by simp; omega⟩
      have hm := (fnd_mem l u h.sort).1 hf
      rw [h.mem x]
      simp only [List.mem_append, List.mem_singleton]
      constructor
      · rintro ⟨h1, h2⟩; exact ⟨h1, .inl h2⟩
      · rintro ⟨h1, h2 | rfl⟩
        · exact ⟨h1, h2⟩
        · exact (h.mem x).1 hm
    · rw [if_neg hf, if_neg (by omega)]
      have hn : u ∉ l := fun hm => hf ((fnd_mem l u h.sort).2 hm)
      refine ⟨insU l u, 0, rfl, insU_sort l u h.sort hn, fun x => ?_, ?_⟩
      · rw [insU_mem, h.mem x]
        simp only [List.mem_append, List.mem_singleton]
        constructor
        · rintro (rfl | ⟨h1, h2⟩)
          · exact ⟨hv, .inr rfl⟩
          · exact ⟨h1, .inl h2⟩
        · rintro ⟨h1, h2 | h2⟩
          · exact .inr ⟨h1, h2⟩
          · exact .inl h2
      · have := fnd_le l u
        unfold insU
        simp only [List.length_append, List.length_take, List.length_cons, List.length_drop, List.length_nil]
        omega
theorem same_loop (a : List U) (d : Nat) : ∀ (i k : Nat), i + d = a.length → a.length ≤ 1000 → comitialaw12_same.l0 (k + d + 1) a a (i : Int) = some true := by
  induction d with
  | zero => intro i k h hl; simp only [Nat.add_zero, comitialaw12_same.l0]; rw [if_neg (by omega)]
  | succ d ih =>
    intro i k h hl
    rw [show k + (d + 1) + 1 = (k + d + 1) + 1 by omega]
    unfold comitialaw12_same.l0
    rw [if_pos (by omega), if_pos (by omega), if_pos (by omega), if_neg (by simp), w64 (by omega) (by omega)]
    exact ih (i + 1) k (by omega) hl
theorem same_refl (a : List U) (k : Nat) (hl : a.length ≤ 1000) (hk : a.length < k) : comitialaw12_same.f k a a = some true := by
  unfold comitialaw12_same.f
  rw [if_pos rfl]
  have := same_loop a a.length 0 (k - a.length - 1) (by omega) hl
  rwa [show k - a.length - 1 + a.length + 1 = k by omega] at this
theorem orders_loop (l0 : List S31) (a1 : Int) (n s : Nat) (hn : n ≤ l0.length) (hn8 : n ≤ 8) (hn0 : 0 < n) (hs : (s : Int) = a1 % (n : Int)) (R : Nat → U) (hR : ∀ i : Nat, comitialaw12_Act_user.f (rd_T31 l0 i).f0.f0 (rd_T31 l0 i).f0.f1 (rd_T31 l0 i).f1 = some ((R i).f0, (R i).f1)) (d : Nat) : ∀ (i : Nat) (a b : List U) (k : Nat), i + d = n → St a ((List.range i).map R) → St b ((List.range i).map fun j => R ((j + s) % n)) →
    ∃ a' b' k', comitialaw12_PeopleOrders.l0 (k + d + 1) l0 a1 a b n i = (comitialaw12_same.f k' a' b').bind some ∧ k' = k ∧ St a' ((List.range n).map R) ∧ St b' ((List.range n).map fun j => R ((j + s) % n)) := by
  have hsn : s < n := by have := Int.emod_lt_of_pos a1 (show (0 : Int) < n by omega); omega
  induction d with
  | zero =>
    intro i a b k h ha hb
    have hi : i = n := by omega
    subst hi
    refine ⟨a, b, k, ?_, rfl, ha, hb⟩
    simp only [Nat.add_zero, comitialaw12_PeopleOrders.l0]
    rw [if_neg (by omega)]
  | succ d ih =>
    intro i a b k h ha hb
    obtain ⟨a2, e2, h2, ha2⟩ := ha.add (R i) (by simp; omega)
    obtain ⟨b2, f2, h3, hb2⟩ := hb.add (R ((i + s) % n)) (by simp; omega)
    have r1 : (List.range i).map R ++ [R i] = (List.range (i + 1)).map R := by simp [List.range_succ]
    have r2 : (List.range i).map (fun j => R ((j + s) % n)) ++ [R ((i + s) % n)] = (List.range (i + 1)).map (fun j => R ((j + s) % n)) := by simp [List.range_succ]
    rw [r1] at ha2
    rw [r2] at hb2
    obtain ⟨a', b', k', q1, q2, q3, q4⟩ := ih (i + 1) a2 b2 k (by omega) ha2 hb2
    refine ⟨a', b', k', ?_, q2, q3, q4⟩
    rw [← q1, show k + (d + 1) + 1 = (k + d + 1) + 1 by omega]
    conv => lhs; unfold comitialaw12_PeopleOrders.l0
    have hm : Int.tmod (wrap64 ((i : Int) + a1 % (n : Int))) (n : Int) = (((i + s) % n : Nat) : Int) := by
      rw [← hs, w64 (by omega) (by omega), Int.tmod_eq_emod_of_nonneg (by omega)]
      simp
    have hlt : (i + s) % n < n := Nat.mod_lt _ hn0
    rw [if_pos (by omega), if_pos (by omega), if_pos (by omega), hR]
    rw [Option.bind_some]
    rw [h2]
    rw [Option.bind_some]
    rw [within_eq _ _ (by omega) (by omega)]
    rw [Option.bind_some]
    rw [if_neg (by omega), hm, if_pos (by omega), if_pos (by omega), hR]
    rw [Option.bind_some]
    rw [h3]
    rw [Option.bind_some]
    rw [w64 (by omega) (by omega)]
    congr 1
theorem PeopleOrders_true (l0 : List S31) (a1 : Int) (hl : l0.length ≤ 9223372036854775807) : ∃ k, comitialaw12_PeopleOrders.f k l0 a1 = some true := by
  obtain ⟨K, hK⟩ : ∃ K, K = 100 := ⟨_, rfl⟩
  refine ⟨K + 1, ?_⟩
  unfold comitialaw12_PeopleOrders.f comitialaw12_known.f
  simp only [Option.bind_some, if_true]
  rw [mn_eq]
  obtain ⟨n, hn⟩ : ∃ n : Nat, min (l0.length : Int) 8 = (n : Int) := ⟨(min (l0.length : Int) 8).toNat, by omega⟩
  rw [hn]
  by_cases h0 : n = 0
  · subst h0
    simp only [comitialaw12_PeopleOrders.l0]
    rw [if_neg (by omega), same_refl [] _ (by simp) (by simp; omega)]
    rfl
  obtain ⟨R, hR⟩ : ∃ R : Nat → U, ∀ i : Nat, comitialaw12_Act_user.f (rd_T31 l0 i).f0.f0 (rd_T31 l0 i).f0.f1 (rd_T31 l0 i).f1 = some ((R i).f0, (R i).f1) :=
    ⟨fun i => (user_any (rd_T31 l0 i)).choose, fun i => (user_any (rd_T31 l0 i)).choose_spec⟩
  obtain ⟨s, hs⟩ : ∃ s : Nat, (s : Int) = a1 % (n : Int) := ⟨(a1 % (n : Int)).toNat, by have := Int.emod_nonneg a1 (show (n : Int) ≠ 0 by omega); omega⟩
  have hsn : s < n := by have := Int.emod_lt_of_pos a1 (show (0 : Int) < n by omega); omega
  obtain ⟨a, b, k, h1, h2, ha, hb⟩ := orders_loop l0 a1 n s (by omega) (by omega) (by omega) hs R hR n 0 [] [] (K + 1 - n - 1) (by omega) St.nil St.nil
  have e : a = b := by
    refine sortU_eq ha.sort hb.sort fun x => ?_
    rw [ha.mem, hb.mem]
    refine and_congr_right fun _ => ?_
    simp only [List.mem_map, List.mem_range]
    constructor
    · rintro ⟨j, hj, rfl⟩
      refine ⟨(j + (n - s)) % n, Nat.mod_lt _ (by omega), ?_⟩
      congr 1
      rw [Nat.mod_add_mod, show j + (n - s) + s = j + n by omega, Nat.add_mod_right, Nat.mod_eq_of_lt hj]
    · rintro ⟨j, hj, rfl⟩
      exact ⟨(j + s) % n, Nat.mod_lt _ (by omega), rfl⟩
  have hal := ha.len
  simp only [List.length_map, List.length_range] at hal
  have : K + 1 - n - 1 + n + 1 = K + 1 := by omega
  rw [this] at h1
  have h1' : comitialaw12_PeopleOrders.l0 (K + 1) l0 a1 [] [] (n : Int) 0 = (comitialaw12_same.f k a b).bind some := h1
  rw [h1', ← e, same_refl a k (by omega) (by omega)]
  rfl
end Go.Proofs.Ytlcnhamcbakfcaa.Pure

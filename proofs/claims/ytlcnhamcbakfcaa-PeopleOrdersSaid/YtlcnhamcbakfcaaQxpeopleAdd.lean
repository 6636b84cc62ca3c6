/- Contracts of Go functions: each call answers what the Lean function of its name answers. Conditions: stand in each theorem. Written by this seat's own program over the kit's printer. -/
import Derived.Test.YtlcnhamcbakfcaaQ0
import Derived.Test.YtlcnhamcbakfcaaQxwpscopeagain
import Derived.Test.YtlcnhamcbakfcaaQxpeoplefind
import Derived.Test.YtlcnhamcbakfcaaQxslicesCloneAddr
import Derived.Test.YtlcnhamcbakfcaaQxpeopleuser
import Derived.WalkMore
import Derived.Deep.RegionLaw
import Derived.Deep.RegionWith
namespace Go.Proofs.Ytlcnhamcbakfcaa.Q
open Go.RowKit Go.Proofs.YtlcnhamcbakfcaaW.PrintWords Go.Proofs.YtlcnhamcbakfcaaW.PrintLast Go.Proofs.YtlcnhamcbakfcaaW.PrintMore
attribute [local go_sem] max2_int min2_int max_two min_two max_three min_three max_four min_four   -- for this text's walks alone
set_option linter.unusedVariables false
set_option linter.unusedSimpArgs false

-- HAND
/-! ### people_Add: function 5 -/
open Go.OpM Go.Cx Go.F64
-- IMPORT Derived.WalkMore
-- IMPORT Derived.Deep.RegionLaw
-- IMPORT Derived.Deep.RegionWith
def people_Add.f (l0 : List (S29)) (a1_0 a1_1 : Int) : Option (List (S29) × Int) :=
  if l0.length ≤ 1000 then (people_user.f a1_0 a1_1).bind fun u => if u = true then (if (fnd l0 ⟨a1_0, a1_1⟩).2 = true then some (l0, 12) else if 8 ≤ l0.length then some (l0, 4) else some (insU l0 ⟨a1_0, a1_1⟩, 0)) else some (l0, 1)
  else none
def AddPost (w : World) (r1 : List S29) (r2 : Int) (e : Ending) (w' : World) : Prop := ∃ v0_ : Value, e = .returned (.tuple #[v0_, .int .i64 r2]) ∧ Kd.R k29 29 w' w.heap.size (fun _ => True) v0_ r1 ∧ Below w.heap.size w w'
set_option maxRecDepth 100000 in
set_option maxHeartbeats 4000000 in
theorem people_Add.same (A0 : Option Addr) (c0 : Nat) (l0 : List (S29)) (a1_0 a1_1 : Int) (r2 : Int) (w : World) (hr0 : Kd.C k29 w A0 l0.length l0) (hc0 : l0.length ≤ c0) (hl : l0.length ≤ 1000) (k : Int) (u is : Bool) (hu : people_user.f a1_0 a1_1 = some u)
    (hf : people_find.f l0 a1_0 a1_1 = some (k, is)) (h : (u = false ∧ r2 = 1) ∨ (u = true ∧ is = true ∧ r2 = 12) ∨ (u = true ∧ is = false ∧ 8 ≤ l0.length ∧ r2 = 4)) :
    Calls Try.prog 5 #[.slice A0 l0.length c0, .agg #[.int .i64 a1_0, .int .i64 a1_1]] w (AddPost w l0 r2) := by
  have HR := Go.Cx.hid hr0
  have HU := Go.Cx.hid hu
  have HF := Go.Cx.hid hf
  have HC := Go.Cx.hid hc0
  have HL : Hid (slices_Clone_Addr.f l0 = some l0) := Go.Cx.hid (by unfold slices_Clone_Addr.f; rw [if_pos (by omega)])
  clear hr0 hu hf hc0
  rcases h with ⟨rfl, rfl⟩ | ⟨rfl, rfl, rfl⟩ | ⟨rfl, rfl, h8, rfl⟩
  all_goals (try (have h8i : decide (((8 : Nat) : Int) ≤ (l0.length : Int)) = true := decide_eq_true (by omega)))
  all_goals (
    go_enter Try.func5, Try.ntmps5
    go_wp2_with (first
      | (go_at_call 10; refine (people_find.calls A0 c0 l0 a1_0 a1_1 k _ _ ?s1 HC.out HF.out).mono ?_; (case s1 => exact Kd.C_alloc HR.out _); rintro e w1 ⟨rfl, hb⟩; have x0 := (Ch.of_below hb).cell (cell_blk (alloc_blk_new (w := w) (.cells #[.int .i64 a1_0, .int .i64 a1_1] 29) rfl) 0) id; have x1 := (Ch.of_below hb).cell (cell_blk (alloc_blk_new (w := w) (.cells #[.int .i64 a1_0, .int .i64 a1_1] 29) rfl) 1) id; have HB := Go.Cx.hid (((Ch.refl (fun _ => False) w).alloc _).f (Ch.of_below hb)); clear hb)
      | (go_at_call 11; refine (people_user.calls a1_0 a1_1 _ _ HU.out).mono ?_; rintro e w2 ⟨rfl, hb⟩; have y0 := (Ch.of_below hb).cell x0 id; have y1 := (Ch.of_below hb).cell x1 id; have HB2 := Go.Cx.hid (HB.out.f (Ch.of_below hb)); clear hb)
      | (go_at_call 12; refine (slices_Clone_Addr.calls A0 c0 l0 l0 _ (Kd.C_below HR.out HB2.out.below0) HC.out HL.out).mono ?_; rintro e w3 ⟨v, rfl, ho, hb⟩; have HO := Go.Cx.hid (Kd.R_lower ho HB2.out.size); have HB3 := Go.Cx.hid (HB2.out.f (Ch.of_below hb)); clear ho hb))
    go_ret2
    exact ⟨_, rfl, HO.out, HB3.out.below0⟩)
set_option maxRecDepth 100000 in
set_option maxHeartbeats 4000000 in
theorem people_Add.new (A0 : Option Addr) (c0 : Nat) (l0 : List (S29)) (a1_0 a1_1 : Int) (w : World) (hr0 : Kd.C k29 w A0 l0.length l0) (hc0 : l0.length ≤ c0) (hl : l0.length < 8) (k : Nat) (hk : k ≤ l0.length) (hu : people_user.f a1_0 a1_1 = some true)
    (hf : people_find.f l0 a1_0 a1_1 = some ((k : Int), false)) :
    Calls Try.prog 5 #[.slice A0 l0.length c0, .agg #[.int .i64 a1_0, .int .i64 a1_1]] w (AddPost w (l0.take k ++ ⟨a1_0, a1_1⟩ :: l0.drop k) 0) := by
  have HR := Go.Cx.hid hr0
  have HU := Go.Cx.hid hu
  have HF := Go.Cx.hid hf
  have HC := Go.Cx.hid hc0
  have h8i : decide (((8 : Nat) : Int) ≤ (l0.length : Int)) = false := decide_eq_false (by omega)
  have hk0 : (0 : Int) ≤ (k : Int) := by omega
  have hki : (k : Int) ≤ (l0.length : Int) := by omega
  have hkc : (k : Int) ≤ (c0 : Int) := by omega
  clear hr0 hu hf hc0
  have hi9 : (Try.prog.info? 29).map (fun i => i.size) = some 2 := by kernel_rfl
  obtain ⟨i9, hi9, hs9⟩ := Option.map_eq_some_iff.1 hi9
  have s1 : ∀ W : World, (Instr.slice 24 (.slice A0 l0.length c0) none (some (.int .i64 (k : Int))) none).run Try.prog W = .ok (.slice A0 k c0) W := by
    simpa using cut_to (P := Try.prog) 24 29 .i64 Try.underlying24 hi9 A0 l0.length c0 (k : Int) hk0 hki HC.out
  obtain ⟨A', hA⟩ : ∃ A', A' = if c0 = k then A0 else A0.map (·.add (k * 2)) := ⟨_, rfl⟩
  obtain ⟨c', hc'⟩ : ∃ c', c' = c0 - k := ⟨_, rfl⟩
  have s2 : ∀ W : World, (Instr.slice 24 (.slice A0 l0.length c0) (some (.int .i64 (k : Int))) none none).run Try.prog W = .ok (.slice A' (l0.length - k) c') W := by
    rw [hA, hc']
    simpa using cut_from (P := Try.prog) 24 29 .i64 Try.underlying24 hi9 2 hs9 A0 l0.length c0 (k : Int) hk0 hki
  have HA := Go.Cx.hid hA
  have HC' := Go.Cx.hid hc'
  have HK := Go.Cx.hid hk
  clear hA hc' hk0 hki hkc hi9 hs9 i9
  have hfl : ([l0.take k, [⟨a1_0, a1_1⟩], l0.drop k] : List (List S29)).flatten = l0.take k ++ ⟨a1_0, a1_1⟩ :: l0.drop k := by simp
  have hfn : ([l0.take k, [⟨a1_0, a1_1⟩], l0.drop k] : List (List S29)).flatten.length ≤ 1000000 := by rw [hfl]; simp; omega
  have HFL := Go.Cx.hid hfl
  clear hfl
  go_enter Try.func5, Try.ntmps5
  go_wp2_with (first
    | (go_at_call 10; refine (people_find.calls A0 c0 l0 a1_0 a1_1 k _ _ ?s1 HC.out HF.out).mono ?_; (case s1 => exact Kd.C_alloc HR.out _); rintro e w1 ⟨rfl, hb⟩; have x0 := (Ch.of_below hb).cell (cell_blk (alloc_blk_new (w := w) (.cells #[.int .i64 a1_0, .int .i64 a1_1] 29) rfl) 0) id; have x1 := (Ch.of_below hb).cell (cell_blk (alloc_blk_new (w := w) (.cells #[.int .i64 a1_0, .int .i64 a1_1] 29) rfl) 1) id; have HB := Go.Cx.hid (((Ch.refl (fun _ => False) w).alloc _).f (Ch.of_below hb)); clear hb)
    | (go_at_call 11; refine (people_user.calls a1_0 a1_1 _ _ HU.out).mono ?_; rintro e w2 ⟨rfl, hb⟩; have y0 := (Ch.of_below hb).cell x0 id; have y1 := (Ch.of_below hb).cell x1 id; have HB2 := Go.Cx.hid (HB.out.f (Ch.of_below hb)); clear hb))
  have z0 : w2.drew.cell? ⟨w.heap.size, 0, none⟩ = some (.int .i64 a1_0) := y0
  have z1 : w2.drew.cell? ⟨w.heap.size, 1, none⟩ = some (.int .i64 a1_1) := y1
  go_region_with (first
    | (go_at_call 13; refine (concatU _ 3 [l0.take k, [⟨a1_0, a1_1⟩], l0.drop k] 3 rfl _ ?s1 (by omega) hfn).mono ?_; (case s1 => (have g_ := givenU a1_0 a1_1 24 (Kd.C_below HR.out HB2.out.below0) HC.out HK.out HA.out HC'.out; have e_ : (w2.alloc (.cells #[.int .i64 a1_0, .int .i64 a1_1] 29)).heap.size = w2.heap.size + 1 := (by simp); rw [e_] at g_; exact Kd.C_drew g_)); rintro e w3 ⟨a, c, rfl, ho, hc⟩; have HO := Go.Cx.hid ho; have HC3 := Go.Cx.hid (HB2.out.f (((((Ch.refl (fun _ => False) w2).alloc _).alloc _).drew).f hc)); clear ho hc))
  go_wp2
  go_ret2
  have ho := HO.out
  rw [HFL.out] at ho
  have hlen : (l0.take k ++ (⟨a1_0, a1_1⟩ : S29) :: l0.drop k).length = k + (l0.length - k + 1) := by simp [List.length_take]; omega
  rw [hlen] at ho
  exact ⟨_, rfl, Kd.R_lower (ownU hlen.symm ho) (by have := HB2.out.size; simp; omega), HC3.out.below0⟩
theorem people_Add.calls (A0 : Option Addr) (c0 : Nat) (l0 : List (S29)) (a1_0 a1_1 : Int) (r1 : List (S29)) (r2 : Int) (w : World) (hr0 : Kd.C k29 w A0 l0.length l0) (hc0 : l0.length ≤ c0) (h : people_Add.f l0 a1_0 a1_1 = some (r1, r2)) :
    Calls Try.prog 5 #[.slice A0 l0.length c0, .agg #[.int .i64 a1_0, .int .i64 a1_1]] w fun e w' => ∃ v0_ : Value, e = .returned (.tuple #[v0_, .int .i64 r2]) ∧ Kd.R k29 29 w' w.heap.size (fun _ => True) v0_ r1 ∧ Below w.heap.size w w' := by
  unfold people_Add.f at h
  by_cases hl : l0.length ≤ 1000
  · rw [if_pos hl] at h
    obtain ⟨u, hu, h⟩ := Option.bind_eq_some_iff.1 h
    have hf : people_find.f l0 a1_0 a1_1 = some (((fnd l0 ⟨a1_0, a1_1⟩).1 : Int), (fnd l0 ⟨a1_0, a1_1⟩).2) := by unfold people_find.f; rw [if_pos (by omega)]
    cases u with
    | false =>
      rw [if_neg (by decide)] at h
      simp only [Option.some.injEq, Prod.mk.injEq] at h
      obtain ⟨rfl, rfl⟩ := h
      exact people_Add.same A0 c0 l0 a1_0 a1_1 1 w hr0 hc0 hl _ false _ hu hf (.inl ⟨rfl, rfl⟩)
    | true =>
      rw [if_pos rfl] at h
      obtain ⟨is, his⟩ : ∃ is, is = (fnd l0 ⟨a1_0, a1_1⟩).2 := ⟨_, rfl⟩
      rw [← his] at h hf
      cases is with
      | true =>
        rw [if_pos rfl] at h
        simp only [Option.some.injEq, Prod.mk.injEq] at h
        obtain ⟨rfl, rfl⟩ := h
        exact people_Add.same A0 c0 l0 a1_0 a1_1 12 w hr0 hc0 hl _ true true hu hf (.inr (.inl ⟨rfl, rfl, rfl⟩))
      | false =>
        rw [if_neg (by decide)] at h
        by_cases h8 : 8 ≤ l0.length
        · rw [if_pos h8] at h
          simp only [Option.some.injEq, Prod.mk.injEq] at h
          obtain ⟨rfl, rfl⟩ := h
          exact people_Add.same A0 c0 l0 a1_0 a1_1 4 w hr0 hc0 hl _ true false hu hf (.inr (.inr ⟨rfl, rfl, h8, rfl⟩))
        · rw [if_neg h8] at h
          simp only [Option.some.injEq, Prod.mk.injEq] at h
          obtain ⟨rfl, rfl⟩ := h
          exact people_Add.new A0 c0 l0 a1_0 a1_1 w hr0 hc0 (by omega) (fnd l0 ⟨a1_0, a1_1⟩).1 (fnd_le _ _) hu hf
  · rw [if_neg hl] at h; cases h

end Go.Proofs.Ytlcnhamcbakfcaa.Q

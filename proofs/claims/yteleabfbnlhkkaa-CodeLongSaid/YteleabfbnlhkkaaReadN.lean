/- CodeLong. -/
import Derived.Test.YteleabfbnlhkkaaReadL
namespace Go.Proofs.Yteleabfbnlhkkaa
open Go.RowKit Go.Cx
set_option linter.unusedVariables false
set_option linter.unusedSimpArgs false

theorem Sl_blk {w : World} {g : Nat} {xs : List Value} {e : TypeId} (h : w.heap[g]? = some (.cells xs.toArray e (0, 0))) (hn : xs.length ≤ maxLen) : Sl w 1 (some ⟨g, 0, none⟩) xs.length xs.length xs := by
  refine ⟨by omega, Nat.le_refl _, hn, fun h => (by cases h), ?_⟩
  rintro b hb j u hu
  cases hb
  rw [add_eq, Nat.zero_add, cell_blk h]
  simpa using hu

theorem Sl_set {w : World} {g T : Nat} {e : TypeId} {b : UInt8} {s : List UInt8} (h : w.heap[g]? = some (.cells (List.replicate T (Value.int .u8 0)).toArray e (0, 0))) (hn : T ≤ maxLen)
    (hs : bv s = (bv (List.replicate T 0)).set 0 (.int .u8 (b.toNat : Int))) : Sl (w.setCell ⟨g, 0, none⟩ (.int .u8 (b.toNat : Int))) 1 (some ⟨g, 0, none⟩) T T (bv s) := by
  have h2 := set_blk h 0 (.int .u8 (b.toNat : Int))
  rw [List.setIfInBounds_toArray, ← bv_zero, ← hs] at h2
  have hl : (bv s).length = T := by rw [hs]; simp [bv]
  have := Sl_blk h2 (by omega)
  rwa [hl] at this

/-! ### CodeLong -/
set_option maxRecDepth 100000 in
set_option maxHeartbeats 800000 in
theorem CodeLong_walk (w : World) (x : Int) (hx : I64 x) (y : Int) (hy : 0 ≤ y ∧ y ≤ 255) :
    Calls Try.prog 6 #[.int .i64 x, .int .u8 y] w fun e w' => e = .returned (.bool true) ∧ Below w.heap.size w w' := by
  refine Calls.mono (R := True_ w) ?_ (fun e w' h => ⟨h.1, h.2.below0⟩)
  obtain ⟨b, hb⟩ : ∃ b : UInt8, (b.toNat : Int) = y := ⟨u8of y, by rw [u8of_val]; omega⟩
  subst hb
  obtain ⟨E, hE⟩ : ∃ E : Nat, (E : Int) = x % 5 := ⟨(x % 5).toNat, by omega⟩
  have hE2 : E < 5 := by omega
  have XE := hid hE
  clear hE hy
  have K1 : (0 : Int) < 5 := by omega
  have K2 : (5 : Int) ≤ 1000000000000 := by omega
  obtain ⟨T, hT⟩ : ∃ T, T = 65533 + E := ⟨_, rfl⟩
  have hTi : (65533 : Int) + E = (T : Int) := by omega
  obtain ⟨s, hs⟩ : ∃ s : List UInt8, s = b :: List.replicate (T - 1) 0 := ⟨_, rfl⟩
  have hsl : s.length = T := by rw [hs]; simp; omega
  obtain ⟨K, hK⟩ : ∃ K, K = min T 65535 := ⟨_, rfl⟩
  have hKi : min (T : Int) 65535 = (K : Int) := by omega
  have hK1 : 65533 ≤ K := by omega
  have hK2 : K ≤ 65535 := by omega
  have htx : txt s = u8of (K : Int) :: u8of ((K : Int) / 256) :: s.take 65535 := by
    unfold txt; rw [hsl, ← hK]; rfl
  have hlen2 : (s.take 65535).length = K := by rw [List.length_take, hsl, hK]; omega
  have hnum : K = leNum ((txt s).take 2) := by
    rw [htx]
    have e1 := u8of_val (K : Int)
    have e2 := u8of_val ((K : Int) / 256)
    simp [leNum]; omega
  have hd2 : (txt s).drop 2 = s.take 65535 := by rw [htx]; rfl
  have hfit : K ≤ ((txt s).drop 2).length := by rw [hd2, hlen2]; exact Nat.le_refl _
  have hall : ((txt s).drop 2).take K = s.take 65535 := by rw [hd2, List.take_of_length_le (by omega)]
  have hnone : ((txt s).drop 2).drop K = [] := by rw [hd2, List.drop_eq_nil_iff]; omega
  have h2 : 2 ≤ (txt s).length := by rw [htx]; simp
  have HTX := hid htx
  have NUM := hid hnum
  have FIT := hid hfit
  have ALL := hid hall
  have NONE := hid hnone
  have H2 := hid h2
  have SL := hid hsl
  have SS := hid hs
  have L2 := hid hlen2
  have HK := hid hK
  have hTw : IntKind.i64.wrap ((65533 : Int) + E) = (T : Int) := by rw [IntKind.wrap_i64]; omega
  have m1 : 1 * T ≤ 281474976710656 := by omega
  have m2 : T ≤ maxLen := by unfold maxLen; omega
  have m3 : T ≤ 1000000 := by omega
  have m4 : 0 + 2 + min s.length 65535 ≤ 1000000 := by rw [hsl]; omega
  have m5 : (0 : Int) ≤ T := by omega
  have m6 : (0 : Int) < T := by omega
  have m7 : s.length ≤ 1000000 := by omega
  have HN := fun w => hid (Sl.nil w 1)
  have hrep : bv s = (bv (List.replicate T 0)).set 0 (.int .u8 (b.toNat : Int)) := by
    rw [hs]
    obtain ⟨T', rfl⟩ : ∃ T', T = T' + 1 := ⟨T - 1, by omega⟩
    simp [bv, List.replicate_succ]
  have REP := hid hrep
  have hsz : min s.length 65535 = K := by rw [hsl, hK]
  have SZ := hid hsz
  have m8 : 2 + K ≤ 1000000 := by omega
  have V1 := hid (u8of_val (K : Int))
  have V2 : Hid (((u8of ((K : Int) / 256)).toNat : Int) = (K : Int) / 256) := hid (by rw [u8of_val]; omega)
  have wK : IntKind.i64.wrap ((K : Int) + 2) = (K : Int) + 2 := by rw [IntKind.wrap_i64]; omega
  obtain ⟨r, hr⟩ : ∃ r : List UInt8, s.take 65535 = b :: r ∧ r.length + 1 = K := by
    refine ⟨(List.replicate (T - 1) 0).take 65534, ?_, ?_⟩
    · rw [hs]; rfl
    · rw [List.length_take, List.length_replicate]; omega
  have AL2 := hid hr.1
  have hRL : (r.length : Int) + 1 = (K : Int) := by have := hr.2; omega
  have hK22 : (2 : Int) + K = (K : Int) + 2 := by omega
  clear hr
  have E0 := hid (show endOf [] 0 = 0 by rfl)
  clear htx hnum hfit hall hnone h2 hsl hs hlen2 hK hrep hd2 hsz hT
  go_enter Try.func6, Try.ntmps6
  go_wp2_with (first
    | (go_at_call 11; refine (known1_any _).mono ?_; rintro e w1 ⟨rfl, hc1⟩; have C1 := hid hc1; clear hc1)
    | (go_at_call 18; refine (within1_any x 5 _ K1 K2).mono ?_; rintro e w2 ⟨rfl, rfl⟩; rw [← XE.out])
    | (at_make; refine wpList_mk rfl _ _ _ rfl _ 1 _ et_u8 rfl _ T rfl rfl rfl m1 m2 ?_; intro w3 ho3 hc3; have C3 := hid (C1.out.f hc3); have B3 := hid ho3.row; have f3 := frozen_blk ho3.row 0; have x3 : ∃ u, w3.cell? ⟨w1.heap.size, 0, none⟩ = some u := ⟨_, ho3.at_ (j := 0) (by rw [List.getElem?_replicate, if_pos (by omega)])⟩; obtain ⟨u, x3⟩ := x3; have X3 := string_of (Sl_set ho3.row m2 REP.out) _ rfl; have C3' := hid (C3.out.set (p := w1.heap.size) (i := 0) (u := .int .u8 (b.toNat : Int)) (.inr C1.out.size)); clear ho3 hc3)
    | (go_at_call 16; refine (text_any none 0 0 [] s _ (HN _).out (Nat.zero_le _) m7).mono ?_; rintro e w4 ⟨a4, c4, rfl, hO, hC⟩; rw [SZ.out, Nat.zero_add, List.nil_append] at hO; rw [SZ.out, Nat.zero_add]; obtain ⟨g4, rfl⟩ := hO.some_ (by omega); have y0 : w4.cell? ⟨g4, 0, none⟩ = some (.int .u8 ((K : Int) % 256)) := by rw [← V1.out]; exact hO.at_ (by rw [HTX.out]; rfl)
       have y1 : w4.cell? ⟨g4, 1, none⟩ = some (.int .u8 ((K : Int) / 256)) := by rw [← V2.out]; exact hO.at_ (by rw [HTX.out]; rfl)
       have S4 := hid hO.sl; have C4 := hid (C3'.out.f hC); clear hO hC)
    | (go_at_call 19; refine (new1_any _ (2 + K) _ _ w4 S4.out m8).mono ?_; rintro e w5 ⟨p, rfl, hr, hp, hc⟩; have R5 := hid hr; have PP := hid (Nat.le_trans C4.out.size hp); have QP := hid hp; have D5 := hid hc; have C5 := hid (C4.out.f hc); clear hr hc hp S4 C4)
    | (go_at_call 23; refine (rtext_ok p _ w5 R5.out K H2.out NUM.out FIT.out).mono ?_; rw [NONE.out, ALL.out, AL2.out]; rintro e w6 ⟨rfl, hr, hc⟩; have R6 := hid hr; have C6 := hid (C5.out.far1 hc PP.out); have D6 := hid (D5.out.far1 hc QP.out); have z0 := D6.out.cell y0 id; have z1 := D6.out.cell y1 id; clear hr hc y0 y1 R5 C5)
    | (go_at_call 22; refine (end_any p [] 0 w6 R6.out).mono ?_; rw [E0.out]; rintro e w7 ⟨rfl, rfl⟩))
  go_ret
  exact ⟨rfl, C6.out⟩
end Go.Proofs.Yteleabfbnlhkkaa

/- The statements of disks: their walks. -/
import Derived.Test.YtkpblphcbdecmaaDiskB
namespace Go.Proofs.Ytkpblphcbdecmaa
open Go.RowKit Go.Cx Go.F64
set_option linter.unusedVariables false
set_option linter.unusedSimpArgs false

def True_ (w : World) (e : Ending) (w' : World) : Prop := e = .returned (.bool true) ∧ Ch (fun _ => False) w w'

theorem append_live (d : Dk) (l : List UInt8) (h1 : d.dead = false) (h2 : l.length ≤ d.size - d.cont.length) (h3 : d.left = 0) : d.append l = (d.put l, 0) := by
  unfold Dk.append
  have : (d.put l).step = d.put l := by unfold Dk.step; rw [if_neg (by simp [Dk.put, h3])]
  rw [if_neg (by simp [h1]), if_neg (by omega), this]
  simp [Dk.put, h1]

theorem append_ok (p q : Nat) (d : Dk) (a : Option Addr) (n c : Nat) (l : List UInt8) (w : World) (h : DiskAt w p q d) (hs : Sl w 1 a n c (bv l)) (h1 : d.dead = false) (h2 : l.length ≤ d.size - d.cont.length) (h3 : d.left = 0) :
    Calls Try.prog 12 #[.pointer (some ⟨p, 0, none⟩), .slice a n c] w fun e w' => e = .returned (.int .i64 0) ∧ DiskAt w' p q (d.put l) ∧ Ch (fun k => k = p ∨ k = q) w w' :=
  (append_any p q d a n c l w h hs).mono fun e w' ⟨g1, g2, g3⟩ => by rw [append_live d l h1 h2 h3] at g1 g2; exact ⟨g1, g2, g3⟩
def ReadOk (l : List UInt8) (w : World) (e : Ending) (w' : World) : Prop :=
  ∃ a c, e = .returned (.tuple #[.slice a l.length c, .int .i64 0]) ∧ Own w' w.heap.size 5 1 a l.length c (bv l) ∧ Ch (fun _ => False) w w'
theorem read_ok (p q : Nat) (d : Dk) (w : World) (h : DiskAt w p q d) (h1 : d.dead = false) :
    Calls Try.prog 13 #[.pointer (some ⟨p, 0, none⟩)] w (ReadOk d.cont w) :=
  (read_any p q d w h).mono fun e w' g => by
    rcases g with ⟨g, _⟩ | ⟨_, g⟩
    · rw [h1] at g; cases g
    · exact g

def dk3 : Dk := (Dk.new 100).put [1, 2, 3]
def dk2 : Dk := dk3.crash 2
theorem dk2_cont : dk2.cont = [1, 2] := by decide +kernel
theorem dk2_dead : dk2.dead = false := rfl
theorem lit3 (w : World) : Sl (w.alloc (.cells #[.int .u8 1, .int .u8 2, .int .u8 3] 5)) 1 (some ⟨w.heap.size, 0, none⟩) 3 3 (bv [1, 2, 3]) :=
  Sl.lit w #[.int .u8 1, .int .u8 2, .int .u8 3] 5 (by unfold maxLen; decide)

set_option maxRecDepth 100000 in
set_option maxHeartbeats 400000 in
theorem known10_any (w : World) : Calls Try.prog 10 #[] w (True_ w) := by
  go_enter Try.func10, Try.ntmps10
  go_wp2_with (first
    | (go_at_call 11; refine (new_any 100 _).mono ?_; rintro e w1 ⟨p, q, rfl, hd1, hp, hq, hc1⟩; have D1 := hid hd1; have C1 := hid hc1; clear hd1 hc1)
    | (go_at_call 12; refine (append_ok p q (Dk.new 100) _ _ _ [1, 2, 3] _ (D1.out.ch ((Ch.refl (fun _ => False) w1).alloc _) id id) (lit3 w1) rfl (by decide) rfl).mono ?_; rintro e w2 ⟨rfl, hd2, hc2⟩; have D2 := hid hd2; have C2 := hid hc2; clear hd2 hc2)
    | (go_at_call 14; refine (crash_any p q dk3 2 _ D2.out).mono ?_; rintro e w3 ⟨rfl, hd3, hc3⟩; have D3 := hid hd3; have C3 := hid hc3; clear hd3 hc3)
    | (go_at_call 13; refine (read_ok p q dk2 _ D3.out rfl).mono ?_; rw [dk2_cont]; rintro e w4 ⟨a4, c4, rfl, ho4, hc4⟩; obtain ⟨g, rfl⟩ := ho4.some_ (by decide); have x1 : w4.cell? ⟨g, 1, none⟩ = some (.int .u8 2) := ho4.at_ rfl; have C4 := hid hc4; clear ho4 hc4))
  go_ret
  exact ⟨rfl, (((C1.out.alloc _).far2 C2.out hp hq).far2 C3.out hp hq).f C4.out⟩

/-! ### DiskSizes -/
theorem zeros_bv (n : Nat) : List.replicate n (Value.int .u8 0) = bv (List.replicate n 0) := (bv_zero n).symm
set_option maxRecDepth 100000 in
set_option maxHeartbeats 400000 in
theorem DiskSizes_walk (w : World) (n : Int) (hn : I64 n) : Calls Try.prog 3 #[.int .i64 n] w fun e w' => e = .returned (.bool true) ∧ Below w.heap.size w w' := by
  refine Calls.mono (R := True_ w) ?_ (fun e w' h => ⟨h.1, h.2.below0⟩)
  obtain ⟨m, hm, hm2⟩ : ∃ m : Nat, (m : Int) = min (max n 0) 65536 ∧ m ≤ 65536 := ⟨(min (max n 0) 65536).toNat, by omega, by omega⟩
  have hs : (Dk.new n).size = m := by simp only [Dk.new]; omega
  have HM := hid hm
  have HS := hid hs
  clear hm hs
  have hl2 : ∀ w : World, Sl (w.alloc (.cells #[.int .u8 1] 5)) 1 (some ⟨w.heap.size, 0, none⟩) 1 1 (bv [1]) := fun w => Sl.lit w #[.int .u8 1] 5 (by unfold maxLen; decide)
  have L2 := hid hl2
  clear hl2
  have ha : ((Dk.new n).put (List.replicate m 0)).append [1] = ((Dk.new n).put (List.replicate m 0), 19) := by
    unfold Dk.append
    rw [if_neg (by simp [Dk.put, Dk.new]), if_pos (by have := HS.out; simp only [Dk.put, Dk.new, List.length_append, List.length_replicate, List.length_cons, List.length_nil] at this ⊢; omega)]
  have HA := hid ha
  clear ha
  go_enter Try.func3, Try.ntmps3
  go_wp2_with (first
    | (go_at_call 10; refine (known10_any _).mono ?_; rintro e w1 ⟨rfl, hc1⟩; have C1 := hid hc1; clear hc1)
    | (go_at_call 11; refine (new_any n _).mono ?_; rintro e w2 ⟨p, q, rfl, hd2, hp, hq, hc2⟩; have D2 := hid hd2; have C2 := hid hc2; clear hd2 hc2)
    | (at_make; refine wpList_mk rfl _ _ _ rfl _ 1 _ et_u8 rfl _ m rfl rfl (by have := HM.out; omega) (by omega) (by unfold maxLen; omega) ?_; intro w3 ho3 hc3; have D3 := hid (D2.out.ch hc3 id id); have C3 := hid hc3; rw [zeros_bv] at ho3; have S3 := hid ho3.sl; clear ho3 hc3)
    | (go_at_call 12; refine (append_ok p q (Dk.new n) _ _ _ (List.replicate m 0) w3 D3.out S3.out rfl (by have := HS.out; simp [Dk.new] at this ⊢; omega) rfl).mono ?_; rintro e w4 ⟨rfl, hd4, hc4⟩; have D4 := hid hd4; have C4 := hid hc4; clear hd4 hc4 D3 S3)
    | (go_at_call 12; refine (append_any p q _ _ _ _ [1] _ (D4.out.ch ((Ch.refl (fun _ => False) w4).alloc _) id id) (L2.out w4)).mono ?_; rintro e w5 ⟨he5, hd5, hc5⟩; rw [HA.out] at he5 hd5; subst he5; have D5 := hid hd5; have C5 := hid hc5; clear hd5 hc5)
    | (go_at_call 13; refine (read_ok p q _ _ D5.out rfl).mono ?_; rintro e w6 ⟨a6, c6, rfl, ho6, hc6⟩; have C6 := hid hc6; clear ho6 hc6))
  go_ret
  have hq1 := C1.out.size
  refine ⟨?_, ((((((C1.out.f C2.out).f C3.out).far2 C4.out (by omega) (by omega)).alloc _).far2 C5.out (by omega) (by omega)).f C6.out)⟩
  have := HM.out
  simp [Dk.put, Dk.new]
  omega

end Go.Proofs.Ytkpblphcbdecmaa

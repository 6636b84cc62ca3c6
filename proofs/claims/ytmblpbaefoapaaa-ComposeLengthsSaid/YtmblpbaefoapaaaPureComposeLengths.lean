/- The statement ComposeLengths, once the machine's side is told by the printed contracts: it holds of the Lean functions of the Go functions. Conditions: none. -/
import Derived.Test.YtmblpbaefoapaaaQE5n
import Derived.Test.YtmblpbaefoapaaaQxcomitialaw5ComposeLengths
namespace Go.Proofs.Ytmblpbaefoapaaa.Pure
open Go.OpM Go.RowKit Go.Cx Go.Proofs.Ytmblpbaefoapaaa.Q Go.Proofs.YtmblpbaefoapaaaW.PrintWords Go.Proofs.YtmblpbaefoapaaaW.PrintLast Go.Proofs.YtmblpbaefoapaaaW.PrintMore
set_option linter.unusedVariables false
set_option linter.unusedSimpArgs false

/-- A row of parts that does what a row of bytes does. -/
structure Is (a : List S49) (X : List A) : Prop where
  vl : Vl (cms a)
  eq : norm (at_ (cms a)) = norm X
theorem Is.raw {a : List S49} (h : Vl (cms a)) : Is a (at_ (cms a)) := ⟨h, rfl⟩
theorem Is.nf (X : List A) : Is (scs (nf X)) X := ⟨by rw [cms_scs]; exact nf_ok X 0 [] 0, by rw [cms_scs, at_nf, norm_norm]⟩
theorem Is.kp (n : Nat) : Is (scs (kp n)) (keeps n) := ⟨by rw [cms_scs]; exact kp_ok n, by rw [cms_scs, at_kp]⟩
theorem Is.ins {a : List S49} {X : List A} (h : Is a X) : inC (cms a) = OpM.ins X := by unfold inC; rw [← ins_norm, h.eq, ins_norm]
theorem Is.outs {a : List S49} {X : List A} (h : Is a X) : outC (cms a) = OpM.outs X := by unfold outC; rw [← outs_norm, h.eq, outs_norm]
theorem Is.nfeq {a b : List S49} {X Y : List A} (ha : Is a X) (hb : Is b Y) (h : OpM.outs X = OpM.ins Y) : OpM.nf (comp (at_ (cms a)) (at_ (cms b))) = OpM.nf (comp X Y) := by
  have e1 := ha.outs
  have e2 := hb.ins
  unfold outC at e1
  unfold inC at e2
  rw [← comp_norms (by omega), ha.eq, hb.eq, comp_norms h]
theorem Is.good2 {a b : List S49} {X Y : List A} (ha : Is a X) (hb : Is b Y) (hs : OpM.ins X + OpM.outs X + OpM.ins Y + OpM.outs Y ≤ 50000) : Q.good2 (cms a) (cms b) = true := good2_mk ha.vl hb.vl (by rw [ha.ins, ha.outs, hb.ins, hb.outs]; exact hs)
theorem two_is {a b : List S49} {X Y : List A} (ha : Is a X) (hb : Is b Y) (h : OpM.outs X = OpM.ins Y) (hs : OpM.ins X + OpM.outs X + OpM.ins Y + OpM.outs Y ≤ 50000) : compose_Two.f a b = some (scs (OpM.nf (comp X Y)), 0) := by
  rw [two_eq (ha.good2 hb hs), if_pos (by rw [hb.ins, ha.outs, h]), ha.nfeq hb h]
theorem comp_assoc {a b c : List A} (h : outs a = ins b) (k : outs b = ins c) : nf (comp (comp a b) c) = nf (comp a (comp b c)) := by
  have h1 : outs (comp a b) = ins c := by rw [outs_comp _ _ h, k]
  have h2 : outs a = ins (comp b c) := by rw [ins_comp _ _ k, h]
  refine nf_eq (norm_eq (by rw [ins_comp _ _ h1, ins_comp _ _ h, ins_comp _ _ h2]) ?_)
  intro α f d hd
  rw [ins_comp _ _ h1, ins_comp _ _ h] at hd
  rw [app_comp f _ _ h1 d (by rw [ins_comp _ _ h]; exact hd), app_comp f _ _ h d hd, app_comp f _ _ h2 d hd, app_comp f _ _ k _ (by rw [app_length f a d (by omega)]; exact h)]
theorem all3_eq (n k : Nat) (x y z : List S49) {X Y Z : List A} (hx : Is x X) (hy : Is y Y) (hz : Is z Z) (h0 : n = ins X) (h1 : outs X = ins Y) (h2 : outs Y = ins Z) (hs : ins X + outs X + outs Y + outs Z ≤ 5000) :
    compose_All.f (k + 5) (n : Int) [x, y, z] = some (scs (nf (comp (comp X Y) Z)), 0) := by
  have i1 := ins_comp _ _ h1
  have o1 := outs_comp _ _ h1
  have s1 : compose_Two.f (scs (kp n)) x = some (scs (nf X), 0) := by
    have := two_is (Is.kp n) hx (by simp [h0]) (by simp; omega)
    rwa [h0, comp_keepsL, ← h0] at this
  have s2 := two_is (Is.nf X) hy h1 (by omega)
  have s3 := two_is (Is.nf (comp X Y)) hz (by omega) (by omega)
  have h : compose_All.j0 (k + 5) [x, y, z] (scs (kp n)) = some (scs (nf (comp (comp X Y) Z)), 0) := by
    simp only [compose_All.j0, compose_All.l0]
    rw [if_pos (by simp), if_pos (by decide), if_pos (by simp), show rd_L3 [x, y, z] 0 = x from rfl, s1]
    simp only [Option.bind_some, if_true]
    rw [w64 (by decide) (by decide), if_pos (by simp), if_pos (by decide), if_pos (by simp), show rd_L3 [x, y, z] (0 + 1) = y from rfl, s2]
    simp only [Option.bind_some, if_true]
    rw [w64 (by decide) (by decide), if_pos (by simp), if_pos (by decide), if_pos (by simp), show rd_L3 [x, y, z] (0 + 1 + 1) = z from rfl, s3]
    simp only [Option.bind_some, if_true]
    rw [w64 (by decide) (by decide), if_neg (by simp)]
  unfold compose_All.f
  by_cases hn : n = 0
  · rw [if_neg (by omega)]
    have e : scs (kp n) = [] := by rw [hn]; rfl
    rw [e] at h; exact h
  · rw [if_pos (by omega)]
    have e : scs (kp n) = [⟨1, (n : Int), ⟨#[]⟩⟩] := by unfold kp; rw [if_neg hn]; rfl
    rw [e] at h; exact h
theorem putsS_out (l : List S49) (h : Vl (cms l)) : putsS l ≤ outC (cms l) := by
  induction l with
  | nil => simp [putsS]
  | cons c l ih =>
    have hc : (cm c).ok := h.head (c := cm c) (l := cms l)
    have ih := ih (Vl.tail (c := cm c) h)
    have ho := outs_one hc
    have hz : (c.f2.size : Int) = ((cm c).s.length : Int) := by simp [cm]
    have hin : outC (cms (c :: l)) = outs (cm c).at_ + outC (cms l) := by simp [cms, outC]
    have hp : putsS (c :: l) = c.f2.size + putsS l := by simp [putsS]
    have hnn : 0 ≤ (cm c).n := by rcases hc with ⟨_, h, _⟩ | ⟨_, h, _⟩ | ⟨_, h, _⟩ <;> omega
    rw [hin, hp]
    split at ho <;> omega
theorem ComposeLengths : comitialaw5_ComposeLengths.Pure := by
  intro a0 l1 l2 l3 _ _ _ _ _ _ _ _ _ _
  obtain ⟨n, hn⟩ : ∃ n : Nat, (if 89 < (if Int.tmod a0 90 < 0 then 0 else Int.tmod a0 90) then 89 else (if Int.tmod a0 90 < 0 then 0 else Int.tmod a0 90)) = (n : Int) := ⟨(if 89 < (if Int.tmod a0 90 < 0 then 0 else Int.tmod a0 90) then 89 else (if Int.tmod a0 90 < 0 then 0 else Int.tmod a0 90)).toNat, by split <;> split <;> omega⟩
  have hn89 : n ≤ 89 := by split at hn <;> split at hn <;> omega
  obtain ⟨x, hx, hxm, _⟩ := make_eq n (by omega) l1
  have hgx := hxm.good (by omega)
  have hxi := hxm.ins
  have hxo := hxm.outs
  have hxl := hxm.len
  obtain ⟨y, hy, hym, _⟩ := make_eq (outC (cms x)) hxo l2
  have hgy := hym.good (by omega)
  have hyi := hym.ins
  have hyo := hym.outs
  have hyl := hym.len
  obtain ⟨z, hz, hzm, _⟩ := make_eq (outC (cms y)) hyo l3
  have hgz := hzm.good (by omega)
  have hzi := hzm.ins
  have hzo := hzm.outs
  have hzl := hzm.len
  obtain ⟨X, hX⟩ : ∃ X, X = at_ (cms x) := ⟨_, rfl⟩
  obtain ⟨Y, hY⟩ : ∃ Y, Y = at_ (cms y) := ⟨_, rfl⟩
  obtain ⟨Z, hZ⟩ : ∃ Z, Z = at_ (cms z) := ⟨_, rfl⟩
  have Ix : Is x X := hX ▸ Is.raw hxm.vl
  have Iy : Is y Y := hY ▸ Is.raw hym.vl
  have Iz : Is z Z := hZ ▸ Is.raw hzm.vl
  rw [Ix.ins] at hxi
  rw [Ix.outs] at hxo hyi
  rw [Iy.ins] at hyi
  rw [Iy.outs] at hyo hzi
  rw [Iz.ins] at hzi
  rw [Iz.outs] at hzo
  have i1 := ins_comp X Y hyi.symm
  have o1 := outs_comp X Y hyi.symm
  have i2 := ins_comp Y Z hzi.symm
  have o2 := outs_comp Y Z hzi.symm
  have i3 := ins_comp (comp X Y) Z (by omega)
  have o3 := outs_comp (comp X Y) Z (by omega)
  have hl := normal_len (x := comp (comp X Y) Z) (by omega)
  have go : good (cms (scs (nf (comp (comp X Y) Z)))) = true := by rw [cms_scs]; exact nf_good _ (by omega)
  have io : inC (cms (scs (nf (comp (comp X Y) Z)))) = n := by rw [(Is.nf _).ins]; omega
  have oo : outC (cms (scs (nf (comp (comp X Y) Z)))) = outC (cms z) := by rw [(Is.nf _).outs, Iz.outs]; omega
  have hp := putsS_out _ (Is.nf (comp (comp X Y) Z)).vl
  have oz := Iz.outs
  have r1 := ref_in _ go 700000 (by omega)
  have r2 := ref_out _ go 700000 (by omega)
  have r3 := ref_out z hgz 700000 (by omega)
  rw [io] at r1
  rw [oo] at r2
  refine ⟨699995 + 5, _, (n : Int), ((outC (cms x) : Nat) : Int), ((outC (cms y) : Nat) : Int), ((outC (cms z) : Nat) : Int), x, y, z, scs (nf (comp (comp X Y) Z)), rfl, hn, known5_true, hx _ (by omega), ref_out x hgx _ (by omega), ?_, ref_out y hgy _ (by omega), ?_, all3_eq n 699995 x y z Ix Iy Iz (by omega) hyi.symm hzi.symm (by omega), r1, r2, r3, r3, by omega, by omega, by omega⟩
  · exact hy _ (by omega)
  · exact hz _ (by omega)
end Go.Proofs.Ytmblpbaefoapaaa.Pure

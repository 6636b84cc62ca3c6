/- The statement ComposeNone, once the machine's side is told by the printed contracts: it holds of the Lean functions of the Go functions. Conditions: none. -/
import Derived.Test.YtmblpbaefoapaaaQE5n
import Derived.Test.YtmblpbaefoapaaaQxcomitialaw5ComposeNone
namespace Go.Proofs.Ytmblpbaefoapaaa.Pure
open Go.OpM Go.RowKit Go.Cx Go.Proofs.Ytmblpbaefoapaaa.Q Go.Proofs.YtmblpbaefoapaaaW.PrintWords Go.Proofs.YtmblpbaefoapaaaW.PrintLast Go.Proofs.YtmblpbaefoapaaaW.PrintMore
set_option linter.unusedVariables false
set_option linter.unusedSimpArgs false

/-- A row of parts that does what a row of bytes does. -/
structure Is (a : List S49) (X : List A) : Prop where
  vl : Vl (cms a)
  eq : norm (at_ (cms a)) = norm X
theorem Is.raw {a : List S49} (h : Vl (cms a)) : Is a (at_ (cms a)) := ⟨h, rfl⟩
theorem Is.nf (X : List A) : Is (scs (nf X)) X := ⟨by rw [cms_scs]; exact nf_ok X 0 [] 0, by rw [cms_scs, at_nf, norm_norm]⟩
theorem Is.kp (n : Nat) : Is (scs (kp n)) (keeps n) := ⟨by rw [cms_scs]; exact kp_ok n, by rw [cms_scs, at_kp]⟩
theorem Is.ins {a : List S49} {X : List A} (h : Is a X) : inC (cms a) = OpM.ins X := by unfold inC; rw [← ins_norm, h.eq, ins_norm]
theorem Is.outs {a : List S49} {X : List A} (h : Is a X) : outC (cms a) = OpM.outs X := by unfold outC; rw [← outs_norm, h.eq, outs_norm]
theorem Is.nfeq {a b : List S49} {X Y : List A} (ha : Is a X) (hb : Is b Y) (h : OpM.outs X = OpM.ins Y) : OpM.nf (comp (at_ (cms a)) (at_ (cms b))) = OpM.nf (comp X Y) := by
  have e1 := ha.outs
  have e2 := hb.ins
  unfold outC at e1
  unfold inC at e2
  rw [← comp_norms (by omega), ha.eq, hb.eq, comp_norms h]
theorem Is.good2 {a b : List S49} {X Y : List A} (ha : Is a X) (hb : Is b Y) (hs : OpM.ins X + OpM.outs X + OpM.ins Y + OpM.outs Y ≤ 50000) : Q.good2 (cms a) (cms b) = true := good2_mk ha.vl hb.vl (by rw [ha.ins, ha.outs, hb.ins, hb.outs]; exact hs)
theorem two_is {a b : List S49} {X Y : List A} (ha : Is a X) (hb : Is b Y) (h : OpM.outs X = OpM.ins Y) (hs : OpM.ins X + OpM.outs X + OpM.ins Y + OpM.outs Y ≤ 50000) : compose_Two.f a b = some (scs (OpM.nf (comp X Y)), 0) := by
  rw [two_eq (ha.good2 hb hs), if_pos (by rw [hb.ins, ha.outs, h]), ha.nfeq hb h]
theorem comp_assoc {a b c : List A} (h : outs a = ins b) (k : outs b = ins c) : nf (comp (comp a b) c) = nf (comp a (comp b c)) := by
  have h1 : outs (comp a b) = ins c := by rw [outs_comp _ _ h, k]
  have h2 : outs a = ins (comp b c) := by rw [ins_comp _ _ k, h]
  refine nf_eq (norm_eq (by rw [ins_comp _ _ h1, ins_comp _ _ h, ins_comp _ _ h2]) ?_)
  intro α f d hd
  rw [ins_comp _ _ h1, ins_comp _ _ h] at hd
  rw [app_comp f _ _ h1 d (by rw [ins_comp _ _ h]; exact hd), app_comp f _ _ h d hd, app_comp f _ _ h2 d hd, app_comp f _ _ k _ (by rw [app_length f a d (by omega)]; exact h)]
theorem all_nil (n k : Nat) : compose_All.f (k + 2) (n : Int) [] = some (scs (kp n), 0) := by
  have h : ∀ x : List S49, compose_All.j0 (k + 2) [] x = some (x, 0) := by
    intro x
    simp only [compose_All.j0, compose_All.l0]
    rw [if_neg (by simp)]
  unfold compose_All.f
  rw [h, h]
  by_cases hn : n = 0
  · subst hn; rw [if_neg (by omega)]; rfl
  · rw [if_pos (by omega)]; unfold kp; rw [if_neg hn]; rfl
theorem all_one (n k : Nat) (x : List S49) (hn : 0 < n) (hn2 : n ≤ 1000) (hx : Vl (cms x)) (hs : inC (cms x) + outC (cms x) ≤ 1000) (hne : inC (cms x) ≠ n) : compose_All.f (k + 3) (n : Int) [x] = some ([], 7) := by
  unfold compose_All.f
  rw [if_pos (by omega)]
  simp only [compose_All.j0, compose_All.l0]
  rw [if_pos (by simp), if_pos (by decide), if_pos (by simp)]
  have hrd : rd_L3 [x] 0 = x := rfl
  have e : cms [(⟨1, (n : Int), (⟨#[]⟩ : ByteArray)⟩ : S49)] = [⟨1, n, []⟩] := rfl
  have hv : Vl (cms [(⟨1, (n : Int), (⟨#[]⟩ : ByteArray)⟩ : S49)]) := by rw [e]; exact Vl.cons (keep_ok hn) Vl.nil
  have ho : outC (cms [(⟨1, (n : Int), (⟨#[]⟩ : ByteArray)⟩ : S49)]) = n := by rw [e]; simp [outC, outs]
  have hi : inC (cms [(⟨1, (n : Int), (⟨#[]⟩ : ByteArray)⟩ : S49)]) = n := by rw [e]; simp [inC, ins]
  rw [hrd, two_eq (good2_mk hv hx (by rw [ho, hi]; omega)), if_neg (by rw [ho]; exact hne)]
  simp
theorem ComposeNone : comitialaw5_ComposeNone.Pure := by
  intro a0 l1 a2 _ _ _ _ _
  obtain ⟨n, hn⟩ : ∃ n : Nat, (if 89 < (if Int.tmod a0 90 < 0 then 0 else Int.tmod a0 90) then 89 else (if Int.tmod a0 90 < 0 then 0 else Int.tmod a0 90)) = (n : Int) := ⟨(if 89 < (if Int.tmod a0 90 < 0 then 0 else Int.tmod a0 90) then 89 else (if Int.tmod a0 90 < 0 then 0 else Int.tmod a0 90)).toNat, by split <;> split <;> omega⟩
  have hn89 : n ≤ 89 := by split at hn <;> split at hn <;> omega
  obtain ⟨x, hx, hxm, _⟩ := make_eq n (by omega) l1
  have hgx := hxm.good (by omega)
  have hxi := hxm.ins
  have hxo := hxm.outs
  have hxl := hxm.len
  obtain ⟨j, hj⟩ : ∃ j : Nat, (if 8 < (if Int.tmod a2 9 < 0 then 0 else Int.tmod a2 9) then 8 else (if Int.tmod a2 9 < 0 then 0 else Int.tmod a2 9)) = (j : Int) := ⟨(if 8 < (if Int.tmod a2 9 < 0 then 0 else Int.tmod a2 9) then 8 else (if Int.tmod a2 9 < 0 then 0 else Int.tmod a2 9)).toNat, by split <;> split <;> omega⟩
  have hj8 : j ≤ 8 := by split at hj <;> split at hj <;> omega
  obtain ⟨X, hX⟩ : ∃ X, X = at_ (cms x) := ⟨_, rfl⟩
  have Ix : Is x X := hX ▸ Is.raw hxm.vl
  have hi := Ix.ins
  have ho := Ix.outs
  have c1 : comp (keeps n) X = X := by rw [show n = ins X by omega]; exact comp_keepsL X
  have c2 : comp X (keeps (outC (cms x))) = X := by rw [ho]; exact comp_keepsR X
  have t1 := two_is (Is.kp n) Ix (by simp; omega) (by simp; omega)
  have t2 := two_is Ix (Is.kp (outC (cms x))) (by simp; omega) (by simp; omega)
  rw [c1] at t1
  rw [c2] at t2
  have hl := normal_len (x := X) (by omega)
  have e1 : (n : Int) + 1 + (j : Int) = ((n + 1 + j : Nat) : Int) := by omega
  have rn := ref_normal x hgx 400000 (by omega)
  rw [← hX] at rn
  have gk : good (cms (scs (kp n))) = true := by rw [cms_scs]; exact good_iff.2 ⟨kp_ok n, by unfold inC outC; rw [at_kp, ins_keeps, outs_keeps]; omega⟩
  have lk : (scs (kp n)).length ≤ 1 := by rw [scs_length]; exact kp_len n
  have ri := ref_in _ gk 400000 (by omega)
  rw [(Is.kp n).ins, ins_keeps] at ri
  have an := all_nil n 399998
  have ao := all_nil (outC (cms x)) 399998
  have a1 := all_one (n + 1 + j) 399997 x (by omega) (by omega) hxm.vl (by omega) (by omega)
  rw [← e1] at a1
  refine ⟨400000, _, (n : Int), _, (j : Int), ((outC (cms x) : Nat) : Int), x, scs (kp n), scs (kp (outC (cms x))), scs (nf X), scs (nf X), [], scs (nf X), scs (nf X), rfl, hn, rfl, hj, w64 (by omega) (by omega), w64 (by omega) (by omega), known5_true, hx _ (by omega), an, ref_out x hgx _ (by omega), ao, t1, t2, a1, rn, rsame_refl _ (by omega) _ (by omega), rn, rsame_refl _ (by omega) _ (by omega), ri, by omega⟩
end Go.Proofs.Ytmblpbaefoapaaa.Pure

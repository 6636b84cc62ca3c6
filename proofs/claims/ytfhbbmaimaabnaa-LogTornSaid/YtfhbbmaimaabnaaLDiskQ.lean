/- comitiaref10's disk, more: Sync, Cut, Read, Crash. -/
import Derived.Test.YtfhbbmaimaabnaaLDiskR
namespace Go.Proofs.Ytfhbbmaimaabnaa
open Go.RowKit Go.Cx Go.F64
set_option linter.unusedVariables false
set_option linter.unusedSimpArgs false

/-- The same, the numbers in whatever order they stand. -/
def RawAt (w : World) (F : Nat → Prop) (x : Nat) (d : Dk) : Prop :=
  ∃ a c, w.heap[x]? = some (.cells #[.slice a d.cont.length c, .int .i64 d.syn, .int .i64 d.size, .int .i64 d.left, .bool d.dead] 59 (0, 0)) ∧
    Own w 0 5 1 a d.cont.length c (bv d.cont) ∧ (∀ b, a = some b → ¬ F b.block) ∧ F x ∧ (∀ k, F k → k < w.heap.size)
theorem RefAt.raw {w : World} {F : Nat → Prop} {x : Nat} {d : Dk} (h : RefAt w F x d) : RawAt w F x d := by
  obtain ⟨a, c, h1, h2, hF, h3, h4, _⟩ := h
  exact ⟨a, c, h1, h2, hF, h3, h4⟩
theorem RawAt.ref {w : World} {F : Nat → Prop} {x : Nat} {d : Dk} (h : RawAt w F x d) (hw : d.Wf) : RefAt w F x d := by
  obtain ⟨a, c, h1, h2, hF, h3, h4⟩ := h
  exact ⟨a, c, h1, h2, hF, h3, h4, hw⟩
theorem RefAt.wf {w : World} {F : Nat → Prop} {x : Nat} {d : Dk} (h : RefAt w F x d) : d.Wf := by
  obtain ⟨a, c, _, _, _, _, _, h⟩ := h
  exact h
theorem RawAt.open_ {w : World} {F : Nat → Prop} {x : Nat} {d : Dk} (h : RawAt w F x d) : ∃ a c, w.cell? ⟨x, 0, none⟩ = some (.slice a d.cont.length c) ∧ w.cell? ⟨x, 1, none⟩ = some (.int .i64 d.syn) ∧ w.cell? ⟨x, 2, none⟩ = some (.int .i64 d.size) ∧
    w.cell? ⟨x, 3, none⟩ = some (.int .i64 d.left) ∧ w.cell? ⟨x, 4, none⟩ = some (.bool d.dead) ∧ w.frozen? ⟨x, 0, none⟩ = false ∧ w.frozen? ⟨x, 1, none⟩ = false ∧ w.frozen? ⟨x, 3, none⟩ = false ∧ w.frozen? ⟨x, 4, none⟩ = false ∧
    Sl w 1 a d.cont.length c (bv d.cont) ∧ F x ∧ (∀ k, F k → k < w.heap.size) ∧ d.cont.length ≤ c := by
  obtain ⟨a, c, h1, h2, hF, h3, h4⟩ := h
  exact ⟨a, c, cell_blk h1 0, cell_blk h1 1, cell_blk h1 2, cell_blk h1 3, cell_blk h1 4, frozen_blk h1 0, frozen_blk h1 1, frozen_blk h1 3, frozen_blk h1 4, h2.sl, h3, h4, h2.sl.2.1⟩
theorem RawAt.f {w w' : World} {F : Nat → Prop} {x : Nat} {d : Dk} (h : RawAt w F x d) (hc : Ch (fun _ => False) w w') : RawAt w' F x d := by
  obtain ⟨a, c, h1, h2, hF, h3, h4⟩ := h
  exact ⟨a, c, hc.heap h1 id, h2.ch hc (fun _ _ => id), hF, h3, fun k hk => Nat.lt_of_lt_of_le (h4 k hk) hc.size⟩
theorem RawAt.set {w : World} {F : Nat → Prop} {x : Nat} {d d' : Dk} (h : RawAt w F x d) (i : Nat) (v : Value) (hc : d'.cont = d.cont)
    (hv : ∀ a c, #[.slice a d.cont.length c, .int .i64 d.syn, .int .i64 d.size, .int .i64 d.left, .bool d.dead].setIfInBounds i v = #[.slice a d.cont.length c, .int .i64 d'.syn, .int .i64 d'.size, .int .i64 d'.left, .bool d'.dead]) :
    RawAt (w.setCell ⟨x, i, none⟩ v) F x d' := by
  obtain ⟨a, c, h1, h2, hF, h3, h4⟩ := h
  have C : Ch (fun k => k = x) w (w.setCell ⟨x, i, none⟩ v) := (Ch.refl _ w).set
  refine ⟨a, c, ?_, ?_, hF, h3, fun k hk => Nat.lt_of_lt_of_le (h4 k hk) C.size⟩
  · refine (set_blk h1 i v).trans ?_
    rw [hv, hc]
  · rw [hc]; exact h2.ch C (fun b hb h => hF b hb (by rw [h]; exact h3))
/-- Other bytes in their place. -/
theorem RawAt.row {w : World} {F : Nat → Prop} {x : Nat} {d : Dk} (h : RawAt w F x d) {b : Nat} {a2 : Option Addr} {n c2 : Nat} {l : List UInt8} (ho : Own w b 5 1 a2 n c2 (bv l)) (hb : ∀ k, F k → k < b) :
    RawAt (w.setCell ⟨x, 0, none⟩ (.slice a2 n c2)) F x { d with cont := l } := by
  obtain ⟨a, c, h1, h2, hF, h3, h4⟩ := h
  have hF2 : ∀ b', a2 = some b' → ¬ F b'.block := fun b' hb' h => by have := (ho.block b' hb').1; have := hb _ h; omega
  have C : Ch (fun k => k = x) w (w.setCell ⟨x, 0, none⟩ (.slice a2 n c2)) := (Ch.refl _ w).set
  have hn : n = l.length := by have := ho.sl.1; rw [bv_length] at this; omega
  subst hn
  refine ⟨a2, c2, ?_, ?_, hF2, h3, fun k hk => Nat.lt_of_lt_of_le (h4 k hk) C.size⟩
  · exact (set_blk h1 0 _).trans rfl
  · exact (ho.base_le (Nat.zero_le _)).ch C (fun b' hb' h => hF2 b' hb' (by rw [h]; exact h3))
theorem chx {w w1 w2 : World} {F : Nat → Prop} {x : Nat} (h : Ch (fun k => k = x ∨ ¬ F k) w w1) (k : Ch (fun k => k = x) w1 w2) : Ch (fun k => k = x ∨ ¬ F k) w w2 := h.trans k (fun _ _ h => .inl h)

/-! ### Sync -/
set_option maxRecDepth 100000 in
set_option maxHeartbeats 400000 in
theorem rsync_any (F : Nat → Prop) (x : Nat) (d : Dk) (w : World) (h : RefAt w F x d) :
    Calls Try.prog 46 #[.pointer (some ⟨x, 0, none⟩)] w (RPost F x d.sync.1 (.int .i64 d.sync.2) w) := by
  have HD := hid h
  obtain ⟨a, c, k0, k1, k2, k3, k4, f0, f1, f3, f4, sl, hx, hs, hc⟩ := h.raw.open_
  clear h
  cases hd : d.dead with
  | true =>
    have G : RPost F x d.sync.1 (.int .i64 d.sync.2) w (.returned (.int .i64 18)) w := by
      unfold RPost Dk.sync; rw [if_pos hd]; exact ⟨rfl, HD.out, Ch.refl _ _⟩
    have HG := hid G
    rw [hd] at k4
    clear G hd
    go_enter Try.func46, Try.ntmps46
    go_wp2
    go_ret
    exact HG.out
  | false =>
    rw [hd] at k4
    have HF := hid hd
    clear hd
    go_enter Try.func46, Try.ntmps46
    go_wp2_with (go_at_call 32; refine (rop_any F x d _ HD.out).mono ?_; rintro e w1 ⟨rfl, hd1, hc1⟩; have HD1 := hid hd1; have HC1 := hid hc1; obtain ⟨a1, c1, e0, e1, e2, e3, e4, g0, g1, g3, g4, sl1, hx1, hs1, hcc1⟩ := hd1.raw.open_; clear hd1 hc1)
    · go_ret
      have hs : d.step.dead = true := by assumption
      unfold RPost Dk.sync; rw [if_neg (by rw [HF.out]; simp), if_pos hs]
      exact ⟨rfl, HD1.out, HC1.out⟩
    · go_ret
      have hs : d.step.dead = false := by assumption
      unfold RPost Dk.sync; rw [if_neg (by rw [HF.out]; simp), if_neg (by rw [hs]; simp)]
      have hw := HD1.out.wf
      refine ⟨rfl, RawAt.ref (HD1.out.raw.set 1 _ rfl (fun a c => ?_)) ⟨?_, hw.h2, hw.h3, hw.h4, hw.h5⟩, chx HC1.out ((Ch.refl _ _).set)⟩
      · simp only [step_cont]; rfl
      · simp only [step_cont]; exact Nat.le_refl _

/-! ### Cut -/
set_option maxRecDepth 100000 in
set_option maxHeartbeats 1000000 in
theorem rcut_any (F : Nat → Prop) (x : Nat) (d : Dk) (n : Int) (w : World) (h : RefAt w F x d) :
    Calls Try.prog 39 #[.pointer (some ⟨x, 0, none⟩), .int .i64 n] w (RPost F x (d.cut n).1 (.int .i64 (d.cut n).2) w) := by
  have HD := hid h
  obtain ⟨a, c, k0, k1, k2, k3, k4, f0, f1, f3, f4, sl, hx, hs, hc⟩ := h.raw.open_
  have b2 := h.wf.h2
  have b3 := h.wf.h3
  clear h
  cases hd : d.dead with
  | true =>
    have G : RPost F x (d.cut n).1 (.int .i64 (d.cut n).2) w (.returned (.int .i64 18)) w := by
      unfold RPost Dk.cut; rw [if_pos hd]; exact ⟨rfl, HD.out, Ch.refl _ _⟩
    have HG := hid G
    rw [hd] at k4
    clear G hd
    go_enter Try.func39, Try.ntmps39
    go_wp2
    go_ret
    exact HG.out
  | false =>
    rw [hd] at k4
    have HF := hid hd
    clear hd
    by_cases hn : n < 0 ∨ d.cont.length < n
    · have G : RPost F x (d.cut n).1 (.int .i64 (d.cut n).2) w (.returned (.int .i64 1)) w := by
        unfold RPost Dk.cut; rw [if_neg (by rw [HF.out]; simp), if_pos hn]; exact ⟨rfl, HD.out, Ch.refl _ _⟩
      have HG := hid G
      clear G
      by_cases hn0 : n < 0
      · clear hn
        go_enter Try.func39, Try.ntmps39
        go_wp2
        go_ret
        exact HG.out
      · have hn1 : (d.cont.length : Int) < n := by omega
        clear hn
        go_enter Try.func39, Try.ntmps39
        go_wp2
        go_ret
        exact HG.out
    · have hn0 : ¬ n < 0 := by omega
      have hn1 : ¬ (d.cont.length : Int) < n := by omega
      obtain ⟨K, rfl⟩ : ∃ K : Nat, n = K := ⟨n.toNat, by omega⟩
      have hK : K ≤ d.cont.length := by omega
      have HN := hid hn
      clear hn
      have HM : ∀ w1 w2 a2 c2, RefAt w1 F x d.step → Ch (fun k => k = x ∨ ¬ F k) w w1 → d.step.dead = false → Own w2 w1.heap.size 5 1 a2 K c2 (bv (d.cont.take K)) → Ch (fun _ => False) w1 w2 →
          RPost F x (d.cut K).1 (.int .i64 (d.cut K).2) w (.returned (.int .i64 0)) ((w2.setCell ⟨x, 0, none⟩ (.slice a2 K c2)).setCell ⟨x, 1, none⟩ (.int .i64 K)) := by
        intro w1 w2 a2 c2 h1 hc1 hs ho hc2
        have e : d.cut K = ({ d.step with cont := d.cont.take K, syn := K }, 0) := by
          unfold Dk.cut; rw [if_neg (by rw [HF.out]; simp), if_neg HN.out, if_neg (by rw [hs]; simp)]; simp
        rw [e]
        have hw := h1.wf
        have hlen : (d.cont.take K).length = K := by simp; omega
        obtain ⟨_, _, _, _, _, _, _, _, _, _, _, _, hx1, hs1, _⟩ := h1.raw.open_
        refine ⟨rfl, RawAt.ref (((h1.raw.f hc2).row ho hs1).set 1 _ rfl (fun a c => rfl)) ⟨by simp only [hlen]; exact Nat.le_refl _, by simp only [hlen, step_size]; omega, hw.h3, hw.h4, hw.h5⟩, ?_⟩
        exact chx (chx (hc1.f hc2) ((Ch.refl _ _).set)) ((Ch.refl _ _).set)
      have HMH := hid HM
      clear HM
      have hm1 : 0 + K ≤ maxLen := by unfold maxLen; omega
      have hm2 : (0 + K) * 1 ≤ 140737488355328 := by omega
      go_enter Try.func39, Try.ntmps39
      go_wp2_with (first
        | (go_at_call 32; refine (rop_any F x d _ HD.out).mono ?_; rintro e w1 ⟨rfl, hd1, hc1⟩; have HD1 := hid hd1; have HC1 := hid hc1; obtain ⟨a1, c1, e0, e1, e2, e3, e4, g0, g1, g3, g4, sl1, hx1, hs1, hcc1⟩ := hd1.raw.open_; rw [step_cont] at e0 sl1 hcc1; have SL1 := hid sl1; have HA := hid ((Ch.refl (fun _ => False) w1).alloc (.cells #[] 5)); have m0 := HA.out.cell e0 id; have i3 : (K : Int) ≤ c1 := (by omega); have i4 : (K : Int) ≤ d.cont.length := (by omega); clear hd1 hc1 sl1; rcases a1 with _ | b1; all_goals first | (have hzz := SL1.out.none_zero; have hz1 : K = 0 := (by omega); have hz2 := hzz.2.1; clear hzz; subst hz1; subst hz2) | skip)
        | (at_builtin; refine wpList_app rfl _ _ _ _ rfl w1.heap.size 5 1 1 _ et_u8 _ 0 _ [] rfl (M0 w1) _ _ _ rfl (((SL1.out.front _ hK rfl).ch HA.out (fun _ _ => id)).src Try.underlying22 (bv_one _)) hm1 hm2 (by simp) ?_; intro a2 c2 w2 hO hS hC hN; rw [List.nil_append, Nat.zero_add] at hO; have C2 := hid (HA.out.trans hC (fun i hi ⟨b, hb, he⟩ => by cases hb; have : w1.heap.size = i := he; omega)); have O2 := hid hO; obtain ⟨_, _, p0, p1, p2, p3, p4, q0, q1, q3, q4, _⟩ := (HD1.out.raw.f C2.out).open_; clear hO hS hC hN))
      all_goals go_ret
      all_goals first
        | exact HMH.out _ _ _ _ HD1.out HC1.out (by assumption) O2.out C2.out
        | (have hs : d.step.dead = true := by assumption
           unfold RPost Dk.cut; rw [if_neg (by rw [HF.out]; simp), if_neg HN.out, if_pos hs]
           exact ⟨rfl, HD1.out, HC1.out⟩)

/-! ### Read -/
set_option maxRecDepth 100000 in
set_option maxHeartbeats 400000 in
theorem rread_any (F : Nat → Prop) (x : Nat) (d : Dk) (w : World) (h : RefAt w F x d) :
    Calls Try.prog 36 #[.pointer (some ⟨x, 0, none⟩)] w (ReadPost d w) := by
  have HD := hid h
  obtain ⟨a, c, k0, k1, k2, k3, k4, f0, f1, f3, f4, sl, hx, hs, hc⟩ := h.raw.open_
  have b2 := h.wf.h2
  have b3 := h.wf.h3
  clear h
  cases hd : d.dead with
  | true =>
    have G : ReadPost d w (.returned (.tuple #[.slice none 0 0, .int .i64 18])) w := .inl ⟨hd, rfl, Ch.refl _ _⟩
    have HG := hid G
    rw [hd] at k4
    clear G hd
    go_enter Try.func36, Try.ntmps36
    go_wp2
    go_ret2
    exact HG.out
  | false =>
    rw [hd] at k4
    have HF := hid hd
    have SL := hid sl
    have HA := hid ((Ch.refl (fun _ => False) w).alloc (.cells #[] 5))
    have m0 := HA.out.cell k0 id
    have hm1 : 0 + d.cont.length ≤ maxLen := by unfold maxLen; omega
    have hm2 : (0 + d.cont.length) * 1 ≤ 140737488355328 := by omega
    clear hd sl
    go_enter Try.func36, Try.ntmps36
    go_wp2_with (at_builtin; refine wpList_app rfl _ _ _ _ rfl w.heap.size 5 1 1 _ et_u8 _ 0 _ [] rfl (M0 w) _ _ _ rfl ((SL.out.ch HA.out (fun _ _ => id)).src Try.underlying22 (bv_one _)) hm1 hm2 (by simp) ?_; intro a2 c2 w2 hO hS hC hN; rw [List.nil_append, Nat.zero_add] at hO; have C2 := hid (HA.out.trans hC (fun i hi ⟨b, hb, he⟩ => by cases hb; have : w.heap.size = i := he; omega)); have O2 := hid hO; clear hO hS hC hN)
    go_ret2
    exact .inr ⟨HF.out, _, _, rfl, O2.out, C2.out⟩

/-! ### Crash -/
theorem step_app2 {P : Program} {ops : Array Oper} {o : Oper} {a : Go.Act} {w : World} {K : Go.Act → World → Prop} {Q : Exit → Go.Act → World → Prop} {G : Prop} (hgd : o.guard = none) (s x : Operand) (t tx : TypeId)
    (ho : o.op = .call { callee := .builtin .append, args := #[s, x], argTypes := #[t, tx] }) (base : Nat) (e : TypeId) (size bytes : Nat) (z : Value) (E : ElemT P t e size bytes z)
    (sa : Option Addr) (n c : Nat) (xs : List Value) (hs : a.eval s = .slice sa n c) (hown : Own w base e size sa n c xs)
    (v : Value) (m : Nat) (news : List Value) (hv : a.eval x = v) (hx : Src P size tx v m news w)
    (h63 : n + m ≤ maxLen) (hbytes : (n + m) * bytes ≤ 140737488355328) (hbase : base ≤ w.heap.size)
    (h : ∀ a' c' w', Own w' base e size a' (n + m) c' (xs ++ news) → Ch (fun k => ∃ b, sa = some b ∧ b.block = k) w w' → ((a' = sa ∧ c' = c) ∨ ∀ b, a' = some b → w.heap.size ≤ b.block) → K (a.put o.dst (.slice a' (n + m) c')) w') :
    if Region.wanted o (yielded ops a.tmps) = true then Oper.wp P o a w K Q else G := by
  have hw : Region.wanted o (yielded ops a.tmps) = true := by simp [Region.wanted, hgd]
  rw [if_pos hw]
  obtain ⟨a', c', w', hr, h2, h3, h4, h5⟩ := run_app (P := P) w base t tx o.type e size bytes z E sa n c xs hown v m news hx h63 hbytes hbase
  unfold Oper.wp
  simp [execOp, ho, resolve, invoke, builtin, hs, hv, hr, Result.andThen]
  exact h _ _ _ h2 h4 h5
theorem rebase {P : Program} {c : Code} {Q : Exit → Go.Act → World → Prop} {a : Go.Act} {w : World} {R : World → Prop} (h : R w) (k : ∀ w1, R w1 → c.wp P Q a w1) : c.wp P Q a w := k w h
set_option maxRecDepth 100000 in
set_option maxHeartbeats 1000000 in
theorem rcrash_any (F : Nat → Prop) (x : Nat) (d : Dk) (n : Int) (w : World) (h : RefAt w F x d) :
    Calls Try.prog 29 #[.pointer (some ⟨x, 0, none⟩), .int .i64 n] w (RPost F x (d.crash n) (.tuple #[]) w) := by
  have HD := hid h
  obtain ⟨a, c, k0, k1, k2, k3, k4, f0, f1, f3, f4, sl, hx, hs, hc⟩ := h.raw.open_
  have hwf := h.wf
  have b1 := h.wf.h1
  have b2 := h.wf.h2
  have b3 := h.wf.h3
  clear h sl
  have hne : ((d.cont.length : Int) - d.syn + 1 == 0) = false := beq_eq_false_iff_ne.2 (by omega)
  have hneI : ¬ ((d.cont.length : Int) - d.syn + 1 = 0) := by omega
  have E := hid (crash_val d.syn ((d.cont.length : Int) - d.syn + 1) n (by omega) (by omega) (by omega) (by omega))
  have t3 := Int.emod_nonneg n (by omega : (d.cont.length : Int) - d.syn + 1 ≠ 0)
  have t4 := Int.emod_lt_of_pos n (by omega : 0 < (d.cont.length : Int) - d.syn + 1)
  obtain ⟨V, hV⟩ : ∃ V : Nat, (V : Int) = d.syn + n % ((d.cont.length : Int) - d.syn + 1) := ⟨(d.syn + n % ((d.cont.length : Int) - d.syn + 1)).toNat, by omega⟩
  have hVl : V ≤ d.cont.length := by omega
  have em : ((d.cont.length - d.syn + 1 : Nat) : Int) = (d.cont.length : Int) - d.syn + 1 := by omega
  have hcr : d.crash n = { d with cont := d.cont.take V, syn := V, left := 0, dead := false } := by
    unfold Dk.crash
    have : d.syn + (n % ((d.cont.length - d.syn + 1 : Nat) : Int)).toNat = V := by rw [em]; omega
    rw [this]
  have hlen : (d.cont.take V).length = V := by simp; omega
  have G : ∀ w1 w2 a2 c2, RawAt w1 F x { d with syn := V } → Ch (fun k => k = x ∨ ¬ F k) w w1 → Own w2 w1.heap.size 5 1 a2 V c2 (bv (d.cont.take V)) → Ch (fun _ => False) w1 w2 →
      RPost F x (d.crash n) (.tuple #[]) w (.returned (.tuple #[])) (((w2.setCell ⟨x, 0, none⟩ (.slice a2 V c2)).setCell ⟨x, 3, none⟩ (.int .i64 0)).setCell ⟨x, 4, none⟩ (.bool false)) := by
    intro w1 w2 a2 c2 h1 hc1 ho hc2
    rw [hcr]
    obtain ⟨_, _, _, _, _, _, _, _, _, _, _, _, hx1, hs1, _⟩ := h1.open_
    refine ⟨rfl, RawAt.ref ((((h1.f hc2).row ho hs1).set (d' := { d with cont := d.cont.take V, syn := V, left := 0 }) 3 _ rfl (fun a c => rfl)).set 4 _ rfl (fun a c => rfl)) ⟨by simp only [hlen]; exact Nat.le_refl _, by simp only [hlen]; omega, hwf.h3, Int.le_refl _, by simp⟩, ?_⟩
    exact chx (chx (chx (hc1.f hc2) ((Ch.refl _ _).set)) ((Ch.refl _ _).set)) ((Ch.refl _ _).set)
  have HG := hid G
  have HV := hid hV
  have m1 : 0 + V ≤ maxLen := by unfold maxLen; omega
  have m2 : (0 + V) * 1 ≤ 140737488355328 := by omega
  clear G t3 t4 hcr hlen hV em hwf
  go_enter Try.func29, Try.ntmps29
  go_wp2
  go_quiet (fail)
  go_wp2
  refine wp_tail 13 (by kernel_rfl) (by kernel_rfl) ?_
  simp only [List.take_succ_cons, List.take_zero, List.drop_succ_cons, List.drop_zero]
  repeat still_step
  try (
    refine wpStill_step (fun K hK => ?_)
    go_simp
    rw [if_neg hneI]
    refine ⟨rfl, hK _ ?_⟩
    clear hK K)
  repeat still_step
  refine wpStill_nil ?_
  go_wp2
  refine rebase (R := fun w1 => RawAt w1 F x { d with syn := V } ∧ Ch (fun k => k = x ∨ ¬ F k) w w1) ?_ ?_
  · refine ⟨RawAt.set (d := d) (HD.out.raw.f ((Ch.refl _ w).drewN _)) 1 _ rfl (fun a c => congrArg (fun z => #[Value.slice a d.cont.length c, .int .i64 z, .int .i64 d.size, .int .i64 d.left, .bool d.dead]) (E.out.trans HV.out.symm)), ?_⟩
    exact chx ((Ch.refl _ w).drewN _) ((Ch.refl _ _).set)
  · rintro w1 ⟨h1, hc1⟩
    have HR := hid h1
    have HC := hid hc1
    obtain ⟨a1, c1, e0, e1, e2, e3, e4, g0, g1, g3, g4, sl1, hx1, hs1, hcc1⟩ := h1.open_
    dsimp only at e0 e1 e2 e3 e4 sl1 hcc1
    have SL1 := hid sl1
    have i3 : (V : Int) ≤ c1 := by have : d.cont.length ≤ c1 := hcc1; omega
    have i4 : (V : Int) ≤ d.cont.length := by omega
    have i5 : (0 : Int) ≤ V := by omega
    clear h1 hc1 sl1 k0 k1 k2 k3 k4 f0 f1 f3 f4 E hne hneI
    have HD1 := hid ((Ch.refl (fun _ => False) w1).drew)
    have HA := hid (((Ch.refl (fun _ => False) w1).alloc (.cells #[] 5)).drew)
    have m0 := HA.out.cell e0 id
    have m1' := HA.out.cell e1 id
    have n0 := HD1.out.cell e0 id
    have n1 := HD1.out.cell e1 id
    rcases a1 with _ | b1
    all_goals first
      | (have hzz := SL1.out.none_zero
         have hz1 : V = 0 := (by have : d.cont.length = 0 := hzz.1; omega)
         have hz2 := hzz.2.1
         clear hzz
         subst hz1
         subst hz2)
      | skip
    -- region 2
    all_goals (
      refine wp_region_any (by kernel_rfl) ?_
      try (change wpAny _ _ _ _ _ _ _ (World.drew _))
      refine wpAny_take (i := 0) (v := ?_) rfl (by kernel_rfl) (by kernel_rfl) (by kernel_rfl) (fun _ _ _ h => h) (Or.inl ⟨by rfl, ?_⟩) ?_
      rotate_left
      · intro W_
        go_simp
        try with_reducible rfl
      refine wpAny_take (i := 2) (v := ?_) rfl (by kernel_rfl) (by kernel_rfl) (by kernel_rfl) (fun _ _ _ h => h) (Or.inl ⟨by rfl, ?_⟩) ?_
      rotate_left
      · intro W_
        go_simp
        try with_reducible rfl
      refine wpAny_take (i := 3) (v := ?_) rfl (by kernel_rfl) (by kernel_rfl) (by kernel_rfl) (fun _ _ _ h => h) (Or.inl ⟨by rfl, ?_⟩) ?_
      rotate_left
      · intro W_
        go_simp
        try with_reducible rfl
      refine wpAny_take (i := 4) (v := ?_) rfl (by kernel_rfl) (by kernel_rfl) (by kernel_rfl) (fun _ _ _ h => h) (Or.inl ⟨by rfl, ?_⟩) ?_
      rotate_left
      · intro W_
        go_simp
        try with_reducible rfl
      refine wpAny_take (i := 6) (v := ?_) rfl (by kernel_rfl) (by kernel_rfl) (by kernel_rfl) (fun _ _ _ h => h) (Or.inl ⟨by rfl, ?_⟩) ?_
      rotate_left
      · intro W_
        go_simp
        try with_reducible rfl
      refine wpAny_take (i := 7) (v := ?_) rfl (by kernel_rfl) (by kernel_rfl) (by kernel_rfl) (fun _ _ _ h => h) (Or.inl ⟨by rfl, ?_⟩) ?_
      rotate_left
      · intro W_
        go_simp
        try with_reducible rfl
      refine wpAny_take (i := 8) (v := ?_) rfl (by kernel_rfl) (by kernel_rfl) (by kernel_rfl) (fun _ _ _ h => h) (Or.inl ⟨by rfl, ?_⟩) ?_
      rotate_left
      · intro W_
        go_simp
        try with_reducible rfl
      refine wpAny_ready (rs := [1, 5, 9]) (by kernel_rfl) (by simp) ?_
      refine AllReady.cons rfl (fun K hK => ?_) ?_
      · go_simp
        refine hK _ _ ?_
        clear hK K
        refine wpAny_ready (rs := [5, 9]) (by kernel_rfl) (by simp) ?_
        refine AllReady.cons rfl (fun K hK => ?_) ?_
        · go_simp
          refine hK _ _ ?_
          clear hK K
          refine wpAny_ready (rs := [9]) (by kernel_rfl) (by simp) ?_
          refine AllReady.cons rfl (fun K hK => ?_) ?_
          · go_simp
            refine hK _ _ ?_
            clear hK K
            refine wpAny_take (i := 10) (v := ?_) rfl (by kernel_rfl) (by kernel_rfl) (by kernel_rfl) (fun _ _ _ h => h) (Or.inl ⟨by rfl, ?_⟩) ?_
            rotate_left
            · intro W_
              go_simp
              try with_reducible rfl
            refine wpAny_ready (rs := [11]) (by kernel_rfl) (by simp) ?_
            refine AllReady.cons rfl (fun K hK => ?_) ?_
            · refine step_app2 rfl _ _ _ _ rfl w1.heap.size 5 1 1 _ et_u8 _ 0 _ [] rfl ((M0 w1).drew) _ _ _ rfl (((SL1.out.front _ hVl rfl).ch HA.out (fun _ _ => id)).src Try.underlying22 (bv_one _)) m1 m2 (by simp) ?_
              intro a2 c2 w2 hO hC hN
              rw [List.nil_append, Nat.zero_add] at hO
              have C2 := hid (HA.out.trans hC (fun i hi ⟨b, hb, he⟩ => by cases hb; have : w1.heap.size = i := he; omega))
              have O2 := hid hO
              have PP := (HR.out.f C2.out).open_
              dsimp only at PP
              obtain ⟨_, _, p0, p1, p2, p3, p4, q0, q1, q3, q4, _⟩ := PP
              clear hO hC hN
              refine hK _ _ ?_
              clear hK K
              refine wpAny_take (i := 12) (v := ?_) rfl (by kernel_rfl) (by kernel_rfl) (by kernel_rfl) (fun _ _ _ h => h) (Or.inl ⟨by rfl, ?_⟩) ?_
              rotate_left
              · intro W_
                go_simp
                try with_reducible rfl
              refine wpAny_take (i := 13) (v := ?_) rfl (by kernel_rfl) (by kernel_rfl) (by kernel_rfl) (fun _ _ _ h => h) (Or.inl ⟨by rfl, ?_⟩) ?_
              rotate_left
              · intro W_
                go_simp
                try with_reducible rfl
              refine wpAny_ready (rs := [14]) (by kernel_rfl) (by simp) ?_
              refine AllReady.cons rfl (fun K hK => ?_) ?_
              · go_simp
                refine hK _ _ ?_
                clear hK K
                refine wpAny_done (by kernel_rfl) ?_ _
                go_wp2
                go_end0
                exact HG.out _ _ _ _ HR.out HC.out O2.out C2.out
              exact AllReady.nil
            exact AllReady.nil
          exact AllReady.nil
        refine AllReady.cons rfl (fun K hK => ?_) ?_
        · go_simp
          refine hK _ _ ?_
          clear hK K
          refine wpAny_ready (rs := [5]) (by kernel_rfl) (by simp) ?_
          refine AllReady.cons rfl (fun K hK => ?_) ?_
          · go_simp
            refine hK _ _ ?_
            clear hK K
            refine wpAny_take (i := 10) (v := ?_) rfl (by kernel_rfl) (by kernel_rfl) (by kernel_rfl) (fun _ _ _ h => h) (Or.inl ⟨by rfl, ?_⟩) ?_
            rotate_left
            · intro W_
              go_simp
              try with_reducible rfl
            refine wpAny_ready (rs := [11]) (by kernel_rfl) (by simp) ?_
            refine AllReady.cons rfl (fun K hK => ?_) ?_
            · refine step_app2 rfl _ _ _ _ rfl w1.heap.size 5 1 1 _ et_u8 _ 0 _ [] rfl ((M0 w1).drew) _ _ _ rfl (((SL1.out.front _ hVl rfl).ch HA.out (fun _ _ => id)).src Try.underlying22 (bv_one _)) m1 m2 (by simp) ?_
              intro a2 c2 w2 hO hC hN
              rw [List.nil_append, Nat.zero_add] at hO
              have C2 := hid (HA.out.trans hC (fun i hi ⟨b, hb, he⟩ => by cases hb; have : w1.heap.size = i := he; omega))
              have O2 := hid hO
              have PP := (HR.out.f C2.out).open_
              dsimp only at PP
              obtain ⟨_, _, p0, p1, p2, p3, p4, q0, q1, q3, q4, _⟩ := PP
              clear hO hC hN
              refine hK _ _ ?_
              clear hK K
              refine wpAny_take (i := 12) (v := ?_) rfl (by kernel_rfl) (by kernel_rfl) (by kernel_rfl) (fun _ _ _ h => h) (Or.inl ⟨by rfl, ?_⟩) ?_
              rotate_left
              · intro W_
                go_simp
                try with_reducible rfl
              refine wpAny_take (i := 13) (v := ?_) rfl (by kernel_rfl) (by kernel_rfl) (by kernel_rfl) (fun _ _ _ h => h) (Or.inl ⟨by rfl, ?_⟩) ?_
              rotate_left
              · intro W_
                go_simp
                try with_reducible rfl
              refine wpAny_ready (rs := [14]) (by kernel_rfl) (by simp) ?_
              refine AllReady.cons rfl (fun K hK => ?_) ?_
              · go_simp
                refine hK _ _ ?_
                clear hK K
                refine wpAny_done (by kernel_rfl) ?_ _
                go_wp2
                go_end0
                exact HG.out _ _ _ _ HR.out HC.out O2.out C2.out
              exact AllReady.nil
            exact AllReady.nil
          exact AllReady.nil
        exact AllReady.nil
      refine AllReady.cons rfl (fun K hK => ?_) ?_
      · go_simp
        refine hK _ _ ?_
        clear hK K
        refine wpAny_ready (rs := [1, 9]) (by kernel_rfl) (by simp) ?_
        refine AllReady.cons rfl (fun K hK => ?_) ?_
        · go_simp
          refine hK _ _ ?_
          clear hK K
          refine wpAny_ready (rs := [9]) (by kernel_rfl) (by simp) ?_
          refine AllReady.cons rfl (fun K hK => ?_) ?_
          · go_simp
            refine hK _ _ ?_
            clear hK K
            refine wpAny_take (i := 10) (v := ?_) rfl (by kernel_rfl) (by kernel_rfl) (by kernel_rfl) (fun _ _ _ h => h) (Or.inl ⟨by rfl, ?_⟩) ?_
            rotate_left
            · intro W_
              go_simp
              try with_reducible rfl
            refine wpAny_ready (rs := [11]) (by kernel_rfl) (by simp) ?_
            refine AllReady.cons rfl (fun K hK => ?_) ?_
            · refine step_app2 rfl _ _ _ _ rfl w1.heap.size 5 1 1 _ et_u8 _ 0 _ [] rfl ((M0 w1).drew) _ _ _ rfl (((SL1.out.front _ hVl rfl).ch HA.out (fun _ _ => id)).src Try.underlying22 (bv_one _)) m1 m2 (by simp) ?_
              intro a2 c2 w2 hO hC hN
              rw [List.nil_append, Nat.zero_add] at hO
              have C2 := hid (HA.out.trans hC (fun i hi ⟨b, hb, he⟩ => by cases hb; have : w1.heap.size = i := he; omega))
              have O2 := hid hO
              have PP := (HR.out.f C2.out).open_
              dsimp only at PP
              obtain ⟨_, _, p0, p1, p2, p3, p4, q0, q1, q3, q4, _⟩ := PP
              clear hO hC hN
              refine hK _ _ ?_
              clear hK K
              refine wpAny_take (i := 12) (v := ?_) rfl (by kernel_rfl) (by kernel_rfl) (by kernel_rfl) (fun _ _ _ h => h) (Or.inl ⟨by rfl, ?_⟩) ?_
              rotate_left
              · intro W_
                go_simp
                try with_reducible rfl
              refine wpAny_take (i := 13) (v := ?_) rfl (by kernel_rfl) (by kernel_rfl) (by kernel_rfl) (fun _ _ _ h => h) (Or.inl ⟨by rfl, ?_⟩) ?_
              rotate_left
              · intro W_
                go_simp
                try with_reducible rfl
              refine wpAny_ready (rs := [14]) (by kernel_rfl) (by simp) ?_
              refine AllReady.cons rfl (fun K hK => ?_) ?_
              · go_simp
                refine hK _ _ ?_
                clear hK K
                refine wpAny_done (by kernel_rfl) ?_ _
                go_wp2
                go_end0
                exact HG.out _ _ _ _ HR.out HC.out O2.out C2.out
              exact AllReady.nil
            exact AllReady.nil
          exact AllReady.nil
        refine AllReady.cons rfl (fun K hK => ?_) ?_
        · go_simp
          refine hK _ _ ?_
          clear hK K
          refine wpAny_take (i := 10) (v := ?_) rfl (by kernel_rfl) (by kernel_rfl) (by kernel_rfl) (fun _ _ _ h => h) (Or.inl ⟨by rfl, ?_⟩) ?_
          rotate_left
          · intro W_
            go_simp
            try with_reducible rfl
          refine wpAny_ready (rs := [1]) (by kernel_rfl) (by simp) ?_
          refine AllReady.cons rfl (fun K hK => ?_) ?_
          · go_simp
            refine hK _ _ ?_
            clear hK K
            refine wpAny_ready (rs := [11]) (by kernel_rfl) (by simp) ?_
            refine AllReady.cons rfl (fun K hK => ?_) ?_
            · refine step_app2 rfl _ _ _ _ rfl w1.heap.size 5 1 1 _ et_u8 _ 0 _ [] rfl ((M0 w1).drew) _ _ _ rfl (((SL1.out.front _ hVl rfl).ch HA.out (fun _ _ => id)).src Try.underlying22 (bv_one _)) m1 m2 (by simp) ?_
              intro a2 c2 w2 hO hC hN
              rw [List.nil_append, Nat.zero_add] at hO
              have C2 := hid (HA.out.trans hC (fun i hi ⟨b, hb, he⟩ => by cases hb; have : w1.heap.size = i := he; omega))
              have O2 := hid hO
              have PP := (HR.out.f C2.out).open_
              dsimp only at PP
              obtain ⟨_, _, p0, p1, p2, p3, p4, q0, q1, q3, q4, _⟩ := PP
              clear hO hC hN
              refine hK _ _ ?_
              clear hK K
              refine wpAny_take (i := 12) (v := ?_) rfl (by kernel_rfl) (by kernel_rfl) (by kernel_rfl) (fun _ _ _ h => h) (Or.inl ⟨by rfl, ?_⟩) ?_
              rotate_left
              · intro W_
                go_simp
                try with_reducible rfl
              refine wpAny_take (i := 13) (v := ?_) rfl (by kernel_rfl) (by kernel_rfl) (by kernel_rfl) (fun _ _ _ h => h) (Or.inl ⟨by rfl, ?_⟩) ?_
              rotate_left
              · intro W_
                go_simp
                try with_reducible rfl
              refine wpAny_ready (rs := [14]) (by kernel_rfl) (by simp) ?_
              refine AllReady.cons rfl (fun K hK => ?_) ?_
              · go_simp
                refine hK _ _ ?_
                clear hK K
                refine wpAny_done (by kernel_rfl) ?_ _
                go_wp2
                go_end0
                exact HG.out _ _ _ _ HR.out HC.out O2.out C2.out
              exact AllReady.nil
            exact AllReady.nil
          exact AllReady.nil
        exact AllReady.nil
      refine AllReady.cons rfl (fun K hK => ?_) ?_
      · go_simp
        refine hK _ _ ?_
        clear hK K
        refine wpAny_ready (rs := [1, 5]) (by kernel_rfl) (by simp) ?_
        refine AllReady.cons rfl (fun K hK => ?_) ?_
        · go_simp
          refine hK _ _ ?_
          clear hK K
          refine wpAny_ready (rs := [5]) (by kernel_rfl) (by simp) ?_
          refine AllReady.cons rfl (fun K hK => ?_) ?_
          · go_simp
            refine hK _ _ ?_
            clear hK K
            refine wpAny_take (i := 10) (v := ?_) rfl (by kernel_rfl) (by kernel_rfl) (by kernel_rfl) (fun _ _ _ h => h) (Or.inl ⟨by rfl, ?_⟩) ?_
            rotate_left
            · intro W_
              go_simp
              try with_reducible rfl
            refine wpAny_ready (rs := [11]) (by kernel_rfl) (by simp) ?_
            refine AllReady.cons rfl (fun K hK => ?_) ?_
            · refine step_app2 rfl _ _ _ _ rfl w1.heap.size 5 1 1 _ et_u8 _ 0 _ [] rfl ((M0 w1).drew) _ _ _ rfl (((SL1.out.front _ hVl rfl).ch HA.out (fun _ _ => id)).src Try.underlying22 (bv_one _)) m1 m2 (by simp) ?_
              intro a2 c2 w2 hO hC hN
              rw [List.nil_append, Nat.zero_add] at hO
              have C2 := hid (HA.out.trans hC (fun i hi ⟨b, hb, he⟩ => by cases hb; have : w1.heap.size = i := he; omega))
              have O2 := hid hO
              have PP := (HR.out.f C2.out).open_
              dsimp only at PP
              obtain ⟨_, _, p0, p1, p2, p3, p4, q0, q1, q3, q4, _⟩ := PP
              clear hO hC hN
              refine hK _ _ ?_
              clear hK K
              refine wpAny_take (i := 12) (v := ?_) rfl (by kernel_rfl) (by kernel_rfl) (by kernel_rfl) (fun _ _ _ h => h) (Or.inl ⟨by rfl, ?_⟩) ?_
              rotate_left
              · intro W_
                go_simp
                try with_reducible rfl
              refine wpAny_take (i := 13) (v := ?_) rfl (by kernel_rfl) (by kernel_rfl) (by kernel_rfl) (fun _ _ _ h => h) (Or.inl ⟨by rfl, ?_⟩) ?_
              rotate_left
              · intro W_
                go_simp
                try with_reducible rfl
              refine wpAny_ready (rs := [14]) (by kernel_rfl) (by simp) ?_
              refine AllReady.cons rfl (fun K hK => ?_) ?_
              · go_simp
                refine hK _ _ ?_
                clear hK K
                refine wpAny_done (by kernel_rfl) ?_ _
                go_wp2
                go_end0
                exact HG.out _ _ _ _ HR.out HC.out O2.out C2.out
              exact AllReady.nil
            exact AllReady.nil
          exact AllReady.nil
        refine AllReady.cons rfl (fun K hK => ?_) ?_
        · go_simp
          refine hK _ _ ?_
          clear hK K
          refine wpAny_take (i := 10) (v := ?_) rfl (by kernel_rfl) (by kernel_rfl) (by kernel_rfl) (fun _ _ _ h => h) (Or.inl ⟨by rfl, ?_⟩) ?_
          rotate_left
          · intro W_
            go_simp
            try with_reducible rfl
          refine wpAny_ready (rs := [1]) (by kernel_rfl) (by simp) ?_
          refine AllReady.cons rfl (fun K hK => ?_) ?_
          · go_simp
            refine hK _ _ ?_
            clear hK K
            refine wpAny_ready (rs := [11]) (by kernel_rfl) (by simp) ?_
            refine AllReady.cons rfl (fun K hK => ?_) ?_
            · refine step_app2 rfl _ _ _ _ rfl w1.heap.size 5 1 1 _ et_u8 _ 0 _ [] rfl ((M0 w1).drew) _ _ _ rfl (((SL1.out.front _ hVl rfl).ch HA.out (fun _ _ => id)).src Try.underlying22 (bv_one _)) m1 m2 (by simp) ?_
              intro a2 c2 w2 hO hC hN
              rw [List.nil_append, Nat.zero_add] at hO
              have C2 := hid (HA.out.trans hC (fun i hi ⟨b, hb, he⟩ => by cases hb; have : w1.heap.size = i := he; omega))
              have O2 := hid hO
              have PP := (HR.out.f C2.out).open_
              dsimp only at PP
              obtain ⟨_, _, p0, p1, p2, p3, p4, q0, q1, q3, q4, _⟩ := PP
              clear hO hC hN
              refine hK _ _ ?_
              clear hK K
              refine wpAny_take (i := 12) (v := ?_) rfl (by kernel_rfl) (by kernel_rfl) (by kernel_rfl) (fun _ _ _ h => h) (Or.inl ⟨by rfl, ?_⟩) ?_
              rotate_left
              · intro W_
                go_simp
                try with_reducible rfl
              refine wpAny_take (i := 13) (v := ?_) rfl (by kernel_rfl) (by kernel_rfl) (by kernel_rfl) (fun _ _ _ h => h) (Or.inl ⟨by rfl, ?_⟩) ?_
              rotate_left
              · intro W_
                go_simp
                try with_reducible rfl
              refine wpAny_ready (rs := [14]) (by kernel_rfl) (by simp) ?_
              refine AllReady.cons rfl (fun K hK => ?_) ?_
              · go_simp
                refine hK _ _ ?_
                clear hK K
                refine wpAny_done (by kernel_rfl) ?_ _
                go_wp2
                go_end0
                exact HG.out _ _ _ _ HR.out HC.out O2.out C2.out
              exact AllReady.nil
            exact AllReady.nil
          exact AllReady.nil
        exact AllReady.nil
      exact AllReady.nil)
end Go.Proofs.Ytfhbbmaimaabnaa

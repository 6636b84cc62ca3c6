/- Operations as rows of single bytes kept, cut, put: plain lists, no program in sight. -/
namespace Go.OpM

/-- One byte of the document is kept, or cut; one byte is put. -/
inductive A where
  | K
  | C
  | P (b : UInt8)
deriving DecidableEq, Repr
open A

def ins : List A → Nat
  | [] => 0
  | K :: x => ins x + 1
  | C :: x => ins x + 1
  | P _ :: x => ins x
def outs : List A → Nat
  | [] => 0
  | K :: x => outs x + 1
  | C :: x => outs x
  | P _ :: x => outs x + 1
def app {α : Type} (f : UInt8 → α) : List A → List α → List α
  | [], _ => []
  | K :: x, d => d.take 1 ++ app f x d.tail
  | C :: x, d => app f x d.tail
  | P b :: x, d => f b :: app f x d

@[simp] theorem ins_append (x y : List A) : ins (x ++ y) = ins x + ins y := by
  induction x with
  | nil => simp [ins]
  | cons a x ih => cases a <;> simp [ins, ih] <;> omega
@[simp] theorem outs_append (x y : List A) : outs (x ++ y) = outs x + outs y := by
  induction x with
  | nil => simp [outs]
  | cons a x ih => cases a <;> simp [outs, ih] <;> omega
theorem app_length {α : Type} (f : UInt8 → α) (x : List A) : ∀ d : List α, ins x ≤ d.length → (app f x d).length = outs x := by
  induction x with
  | nil => intro d _; rfl
  | cons a x ih =>
    intro d h
    cases a <;> simp only [ins] at h
    · cases d with
      | nil => simp at h
      | cons d0 d => simp only [List.length_cons] at h; simp [app, outs, ih d (by omega)]
    · cases d with
      | nil => simp at h
      | cons d0 d => simp only [List.length_cons] at h; simp [app, outs, ih d (by omega)]
    · simp [app, outs, ih d h]
theorem app_append {α : Type} (f : UInt8 → α) (x y : List A) : ∀ d : List α, ins x ≤ d.length → app f (x ++ y) d = app f x d ++ app f y (d.drop (ins x)) := by
  induction x with
  | nil => intro d _; simp [app, ins]
  | cons a x ih =>
    intro d h
    cases a <;> simp only [ins] at h
    · cases d with
      | nil => simp at h
      | cons d0 d => simp only [List.length_cons] at h; simp [app, ins, ih d (by omega)]
    · cases d with
      | nil => simp at h
      | cons d0 d => simp only [List.length_cons] at h; simp [app, ins, ih d (by omega)]
    · simp [app, ins, ih d h]
/-- The first bytes alone count. -/
theorem app_front {α : Type} (f : UInt8 → α) (x : List A) : ∀ d e : List α, ins x ≤ d.length → app f x (d ++ e) = app f x d := by
  induction x with
  | nil => intro d e _; simp [app]
  | cons a x ih =>
    intro d e h
    cases a <;> simp only [ins] at h
    · cases d with
      | nil => simp at h
      | cons d0 d => simp only [List.length_cons] at h; simp [app, ih d e (by omega)]
    · cases d with
      | nil => simp at h
      | cons d0 d => simp only [List.length_cons] at h; simp [app, ih d e (by omega)]
    · simp [app, ih d e h]
theorem app_map {α β : Type} (f : UInt8 → α) (g : α → β) (x : List A) : ∀ d : List α, (app f x d).map g = app (fun b => g (f b)) x (d.map g) := by
  induction x with
  | nil => intro d; rfl
  | cons a x ih =>
    intro d
    cases a <;> cases d <;> simp [app, ih]

/-! ### The normal form -/
def puts (p : List UInt8) : List A := p.map P
def cuts (c : Nat) : List A := List.replicate c C
def keeps (c : Nat) : List A := List.replicate c K
def normGo : List A → List UInt8 → Nat → List A
  | [], p, c => puts p ++ cuts c
  | K :: x, p, c => puts p ++ cuts c ++ K :: normGo x [] 0
  | C :: x, p, c => normGo x p (c + 1)
  | P b :: x, p, c => normGo x (p ++ [b]) c
def norm (x : List A) : List A := normGo x [] 0

@[simp] theorem ins_puts (p : List UInt8) : ins (puts p) = 0 := by
  induction p with
  | nil => rfl
  | cons b p ih => simpa [puts, ins] using ih
@[simp] theorem outs_puts (p : List UInt8) : outs (puts p) = p.length := by
  induction p with
  | nil => rfl
  | cons b p ih => simpa [puts, outs] using ih
@[simp] theorem ins_cuts (c : Nat) : ins (cuts c) = c := by
  induction c with
  | zero => rfl
  | succ c ih => simpa [cuts, List.replicate_succ, ins] using ih
@[simp] theorem outs_cuts (c : Nat) : outs (cuts c) = 0 := by
  induction c with
  | zero => rfl
  | succ c ih => simpa [cuts, List.replicate_succ, outs] using ih
@[simp] theorem ins_keeps (c : Nat) : ins (keeps c) = c := by
  induction c with
  | zero => rfl
  | succ c ih => simpa [keeps, List.replicate_succ, ins] using ih
@[simp] theorem outs_keeps (c : Nat) : outs (keeps c) = c := by
  induction c with
  | zero => rfl
  | succ c ih => simpa [keeps, List.replicate_succ, outs] using ih
theorem app_puts {α : Type} (f : UInt8 → α) (p : List UInt8) (d : List α) : app f (puts p) d = p.map f := by
  induction p with
  | nil => rfl
  | cons b p ih => simpa [puts, app] using ih
theorem app_cuts {α : Type} (f : UInt8 → α) (c : Nat) : ∀ d : List α, app f (cuts c) d = [] := by
  induction c with
  | zero => intro d; rfl
  | succ c ih => intro d; simpa [cuts, List.replicate_succ, app] using ih _
theorem app_keeps {α : Type} (f : UInt8 → α) (c : Nat) : ∀ d : List α, c ≤ d.length → app f (keeps c) d = d.take c := by
  induction c with
  | zero => intro d _; simp [keeps, app]
  | succ c ih =>
    intro d h
    cases d with
    | nil => simp at h
    | cons d0 d => simp only [List.length_cons] at h; simpa [keeps, List.replicate_succ, app] using ih d (by omega)

theorem ins_normGo (x : List A) : ∀ p c, ins (normGo x p c) = c + ins x := by
  induction x with
  | nil => intro p c; simp [normGo, ins]
  | cons a x ih => intro p c; cases a <;> simp [normGo, ins, ih] <;> omega
theorem outs_normGo (x : List A) : ∀ p c, outs (normGo x p c) = p.length + outs x := by
  induction x with
  | nil => intro p c; simp [normGo, outs]
  | cons a x ih => intro p c; cases a <;> simp [normGo, outs, ih] <;> omega
theorem ins_norm (x : List A) : ins (norm x) = ins x := by simp [norm, ins_normGo]
theorem outs_norm (x : List A) : outs (norm x) = outs x := by simp [norm, outs_normGo]
theorem app_normGo {α : Type} (f : UInt8 → α) (x : List A) : ∀ p c (d : List α), c + ins x ≤ d.length → app f (normGo x p c) d = p.map f ++ app f x (d.drop c) := by
  induction x with
  | nil => intro p c d h; simp only [normGo]; rw [app_append _ _ _ _ (by simp)]; simp [app_puts, app_cuts, app]
  | cons a x ih =>
    intro p c d h
    cases a <;> simp only [ins] at h
    · simp only [normGo]
      rw [app_append _ _ _ _ (by simp; omega), app_append _ _ _ _ (by simp), app_puts, app_cuts]
      have hd : d.drop c ≠ [] := by intro e; rw [List.drop_eq_nil_iff] at e; omega
      obtain ⟨d0, d', e⟩ := List.exists_cons_of_ne_nil hd
      have hl : d'.length + 1 = d.length - c := by have := congrArg List.length e; simp at this; omega
      simp [e, app, ih [] 0 d' (by omega)]
    · simp only [normGo]
      rw [ih p (c + 1) d (by omega)]
      have hd : d.drop c ≠ [] := by intro e; rw [List.drop_eq_nil_iff] at e; omega
      obtain ⟨d0, d', e⟩ := List.exists_cons_of_ne_nil hd
      have : d.drop (c + 1) = d' := by rw [← List.tail_drop, e]; rfl
      simp [app, e, this]
    · rename_i b
      simp only [normGo]
      rw [ih (p ++ [b]) c d (by omega)]
      simp [app]
theorem app_norm {α : Type} (f : UInt8 → α) (x : List A) (d : List α) (h : ins x ≤ d.length) : app f (norm x) d = app f x d := by
  simp [norm, app_normGo f x [] 0 d (by omega)]

theorem normGo_puts (p q : List UInt8) (c : Nat) (x : List A) : normGo (puts p ++ x) q c = normGo x (q ++ p) c := by
  induction p generalizing q with
  | nil => simp [puts]
  | cons b p ih =>
    have := ih (q ++ [b])
    simp only [List.append_assoc, List.singleton_append] at this
    simpa [puts, normGo] using this
theorem normGo_cuts (n : Nat) (q : List UInt8) (c : Nat) (x : List A) : normGo (cuts n ++ x) q c = normGo x q (c + n) := by
  induction n generalizing c with
  | zero => simp [cuts]
  | succ n ih =>
    have := ih (c + 1)
    rw [Nat.add_right_comm, Nat.add_assoc] at this
    simpa [cuts, List.replicate_succ, normGo] using this
theorem normGo_norm (x : List A) : ∀ p c, normGo (normGo x p c) [] 0 = normGo x p c := by
  induction x with
  | nil => intro p c; simp only [normGo]; rw [normGo_puts, ← List.append_nil (cuts c), normGo_cuts]; simp [normGo]
  | cons a x ih =>
    intro p c
    cases a <;> simp only [normGo]
    · rw [List.append_assoc, normGo_puts, normGo_cuts]
      simp only [normGo, List.nil_append, Nat.zero_add, ih, List.append_assoc]
    · exact ih _ _
    · exact ih _ _
theorem norm_norm (x : List A) : norm (norm x) = norm x := normGo_norm x [] 0

/-- What stays of a document of bytes that are all unlike: the normal form is told by it. Each cell: a place, or a byte put. -/
def tagged (x : List A) (k n : Nat) : List (Nat ⊕ UInt8) := app Sum.inr x ((List.range' k n).map Sum.inl)
/-- Where the first kept place is. -/
theorem tagged_normGo_front (x : List A) : ∀ (k n : Nat), ins x ≤ n → ∀ z ∈ tagged x k n, ∀ j, z = Sum.inl j → k ≤ j ∧ j < k + n := by
  induction x with
  | nil => intro k n _ z hz; simp [tagged, app] at hz
  | cons a x ih =>
    intro k n h z hz j hj
    cases a <;> simp only [ins] at h
    · cases n with
      | zero => omega
      | succ n =>
        simp only [tagged, List.range'_succ, List.map_cons, app, List.take_succ_cons, List.take_zero, List.tail_cons, List.mem_append, List.mem_singleton] at hz
        rcases hz with rfl | hz
        · cases hj; omega
        · have := ih (k + 1) n (by omega) z hz j hj; omega
    · cases n with
      | zero => omega
      | succ n =>
        simp only [tagged, List.range'_succ, List.map_cons, app, List.tail_cons] at hz
        have := ih (k + 1) n (by omega) z hz j hj; omega
    · simp only [tagged, app, List.mem_cons] at hz
      rcases hz with rfl | hz
      · cases hj
      · exact ih k n h z hz j hj
/-- Builds the normal form again out of what is left of the places from k on. -/
def back : List (Nat ⊕ UInt8) → List UInt8 → Nat → Nat → List A
  | [], p, k, n => puts p ++ cuts (n - k)
  | Sum.inr b :: z, p, k, n => back z (p ++ [b]) k n
  | Sum.inl j :: z, p, k, n => puts p ++ cuts (j - k) ++ K :: back z [] (j + 1) n
theorem back_tagged (x : List A) : ∀ (p : List UInt8) (c k n : Nat), ins x = n → c ≤ k → back (tagged x k n) p (k - c) (k + n) = normGo x p c := by
  induction x with
  | nil => intro p c k n h hc; simp only [ins] at h; subst h; simp only [tagged, app, back, normGo]; congr 2; omega
  | cons a x ih =>
    intro p c k n h hc
    cases a <;> simp only [ins] at h
    · subst h
      simp only [tagged, List.range'_succ, List.map_cons, app, List.take_succ_cons, List.take_zero, List.tail_cons, List.singleton_append, back, normGo]
      have := ih [] 0 (k + 1) (ins x) rfl (by omega)
      simp only [Nat.sub_zero, tagged] at this
      have e : k + (ins x + 1) = k + 1 + ins x := by omega
      rw [e, this]
      congr 3; omega
    · subst h
      simp only [tagged, List.range'_succ, List.map_cons, app, List.tail_cons, normGo]
      have := ih p (c + 1) (k + 1) (ins x) rfl (by omega)
      have e : k + (ins x + 1) = k + 1 + ins x := by omega
      have e2 : k - c = k + 1 - (c + 1) := by omega
      rw [e, e2]
      simpa [tagged] using this
    · rename_i b
      simp only [tagged, app, back, normGo]
      exact ih (p ++ [b]) c k n h hc
/-- Two operations over as many bytes that leave the same of them have one normal form. -/
theorem norm_eq {x y : List A} (hi : ins x = ins y) (h : ∀ (α : Type) (f : UInt8 → α) (d : List α), d.length = ins x → app f x d = app f y d) : norm x = norm y := by
  have hx := back_tagged x [] 0 0 (ins x) rfl (Nat.le_refl _)
  have hy := back_tagged y [] 0 0 (ins y) rfl (Nat.le_refl _)
  unfold norm
  rw [← hx, ← hy, ← hi]
  have : tagged x 0 (ins x) = tagged y 0 (ins x) := h _ _ _ (by simp)
  rw [this]

/-! ### One behind the other -/
def comp : List A → List A → List A
  | [], [] => []
  | C :: a, b => C :: comp a b
  | a, P x :: b => P x :: comp a b
  | K :: a, K :: b => K :: comp a b
  | K :: a, C :: b => C :: comp a b
  | P x :: a, K :: b => P x :: comp a b
  | P _ :: a, C :: b => comp a b
  | [], _ :: _ => []
  | _ :: _, [] => []
termination_by a b => a.length + b.length

theorem comp_CL (a b : List A) : comp (C :: a) b = C :: comp a b := by
  cases b <;> simp [comp]
theorem comp_PR (a b : List A) (x : UInt8) (h : ∀ a', a ≠ C :: a') : comp a (P x :: b) = P x :: comp a b := by
  cases a with
  | nil => simp [comp]
  | cons y a => cases y with
    | C => exact absurd rfl (h a)
    | K => simp [comp]
    | P z => simp [comp]
theorem comp_ind {motive : List A → List A → Prop} (hn : motive [] []) (hc : ∀ a b, outs a = ins b → motive a b → motive (C :: a) b)
    (hp : ∀ a b x, (∀ a', a ≠ C :: a') → outs a = ins b → motive a b → motive a (P x :: b))
    (kk : ∀ a b, outs a = ins b → motive a b → motive (K :: a) (K :: b)) (kc : ∀ a b, outs a = ins b → motive a b → motive (K :: a) (C :: b))
    (pk : ∀ a b x, outs a = ins b → motive a b → motive (P x :: a) (K :: b)) (pc : ∀ a b x, outs a = ins b → motive a b → motive (P x :: a) (C :: b)) :
    ∀ a b : List A, outs a = ins b → motive a b := by
  suffices H : ∀ n (a b : List A), a.length + b.length ≤ n → outs a = ins b → motive a b from fun a b h => H _ a b (Nat.le_refl _) h
  intro n
  induction n with
  | zero =>
    intro a b hn' _
    have h1 : a = [] := List.eq_nil_of_length_eq_zero (by omega)
    have h2 : b = [] := List.eq_nil_of_length_eq_zero (by omega)
    subst h1 h2; exact hn
  | succ n ih =>
    intro a b hl h
    match a, b with
    | [], [] => exact hn
    | C :: a, b => exact hc a b (by simpa [outs] using h) (ih a b (by simp only [List.length_cons] at hl; omega) (by simpa [outs] using h))
    | [], P x :: b => exact hp [] b x (by simp) (by simpa [ins] using h) (ih [] b (by simp only [List.length_cons] at hl ⊢; omega) (by simpa [ins] using h))
    | K :: a, P x :: b => exact hp _ b x (by simp) (by simpa [ins] using h) (ih _ b (by simp only [List.length_cons] at hl ⊢; omega) (by simpa [ins] using h))
    | P y :: a, P x :: b => exact hp _ b x (by simp) (by simpa [ins] using h) (ih _ b (by simp only [List.length_cons] at hl ⊢; omega) (by simpa [ins] using h))
    | K :: a, K :: b => exact kk a b (by simpa [outs, ins] using h) (ih a b (by simp only [List.length_cons] at hl; omega) (by simpa [outs, ins] using h))
    | K :: a, C :: b => exact kc a b (by simpa [outs, ins] using h) (ih a b (by simp only [List.length_cons] at hl; omega) (by simpa [outs, ins] using h))
    | P x :: a, K :: b => exact pk a b x (by simpa [outs, ins] using h) (ih a b (by simp only [List.length_cons] at hl; omega) (by simpa [outs, ins] using h))
    | P x :: a, C :: b => exact pc a b x (by simpa [outs, ins] using h) (ih a b (by simp only [List.length_cons] at hl; omega) (by simpa [outs, ins] using h))
    | [], K :: b => simp [outs, ins] at h
    | [], C :: b => simp [outs, ins] at h
    | K :: a, [] => simp [outs, ins] at h
    | P x :: a, [] => simp [outs, ins] at h
theorem ins_comp (a b : List A) (h : outs a = ins b) : ins (comp a b) = ins a := by
  refine comp_ind (motive := fun a b => ins (comp a b) = ins a) ?_ ?_ ?_ ?_ ?_ ?_ ?_ a b h
  · simp [comp]
  · intro a b _ ih; rw [comp_CL]; simp [ins, ih]
  · intro a b x hx _ ih; rw [comp_PR _ _ _ hx]; simp [ins, ih]
  · intro a b _ ih; simp [comp, ins, ih]
  · intro a b _ ih; simp [comp, ins, ih]
  · intro a b x _ ih; simp [comp, ins, ih]
  · intro a b x _ ih; simp [comp, ins, ih]
theorem outs_comp (a b : List A) (h : outs a = ins b) : outs (comp a b) = outs b := by
  refine comp_ind (motive := fun a b => outs (comp a b) = outs b) ?_ ?_ ?_ ?_ ?_ ?_ ?_ a b h
  · simp [comp]
  · intro a b _ ih; rw [comp_CL]; simp [outs, ih]
  · intro a b x hx _ ih; rw [comp_PR _ _ _ hx]; simp [outs, ih]
  · intro a b _ ih; simp [comp, outs, ih]
  · intro a b _ ih; simp [comp, outs, ih]
  · intro a b x _ ih; simp [comp, outs, ih]
  · intro a b x _ ih; simp [comp, outs, ih]
theorem app_comp {α : Type} (f : UInt8 → α) (a b : List A) (h : outs a = ins b) : ∀ d : List α, d.length = ins a → app f (comp a b) d = app f b (app f a d) := by
  refine comp_ind (motive := fun a b => ∀ d : List α, d.length = ins a → app f (comp a b) d = app f b (app f a d)) ?_ ?_ ?_ ?_ ?_ ?_ ?_ a b h
  · intro d _; simp [comp, app]
  · intro a b _ ih d hd
    cases d with
    | nil => simp [ins] at hd
    | cons d0 d => rw [comp_CL]; simp only [ins, List.length_cons] at hd; simpa [app] using ih d (by omega)
  · intro a b x hx _ ih d hd; rw [comp_PR _ _ _ hx]; simp [app, ih d hd]
  · intro a b _ ih d hd
    cases d with
    | nil => simp [ins] at hd
    | cons d0 d => simp only [ins, List.length_cons] at hd; simpa [comp, app] using ih d (by omega)
  · intro a b _ ih d hd
    cases d with
    | nil => simp [ins] at hd
    | cons d0 d => simp only [ins, List.length_cons] at hd; simpa [comp, app] using ih d (by omega)
  · intro a b x _ ih d hd; simp only [ins] at hd; simpa [comp, app] using ih d hd
  · intro a b x _ ih d hd; simp only [ins] at hd; simpa [comp, app] using ih d hd

/-! ### Parts: kind (1 keep, 2 put, 3 cut), number, bytes -/
structure Cm where
  k : Int
  n : Int
  s : List UInt8
deriving DecidableEq, Repr
def Cm.at_ (c : Cm) : List A := if c.k = 2 then puts c.s else if c.k = 3 then cuts c.n.toNat else keeps c.n.toNat
def at_ (l : List Cm) : List A := l.flatMap Cm.at_
def Cm.ok (c : Cm) : Prop := (c.k = 1 ∧ 1 ≤ c.n ∧ c.s = []) ∨ (c.k = 2 ∧ c.n = 0 ∧ c.s ≠ []) ∨ (c.k = 3 ∧ 1 ≤ c.n ∧ c.s = [])
instance (c : Cm) : Decidable c.ok := by unfold Cm.ok; infer_instance
def Vl (l : List Cm) : Prop := ∀ c ∈ l, c.ok
@[simp] theorem at_nil : at_ [] = [] := rfl
@[simp] theorem at_cons (c : Cm) (l : List Cm) : at_ (c :: l) = c.at_ ++ at_ l := rfl
@[simp] theorem at_append (a b : List Cm) : at_ (a ++ b) = at_ a ++ at_ b := by simp [at_]
theorem Vl.nil : Vl [] := by intro c h; cases h
theorem Vl.append {a b : List Cm} (h : Vl a) (k : Vl b) : Vl (a ++ b) := by
  intro c hc
  rcases List.mem_append.1 hc with hc | hc
  · exact h c hc
  · exact k c hc
theorem Vl.cons {c : Cm} {l : List Cm} (h : c.ok) (k : Vl l) : Vl (c :: l) := by
  intro x hx
  rcases List.mem_cons.1 hx with rfl | hx
  · exact h
  · exact k x hx
theorem Vl.tail {c : Cm} {l : List Cm} (h : Vl (c :: l)) : Vl l := fun x hx => h x (List.mem_cons_of_mem _ hx)
theorem Vl.head {c : Cm} {l : List Cm} (h : Vl (c :: l)) : c.ok := h c List.mem_cons_self
theorem Vl.left {a b : List Cm} (h : Vl (a ++ b)) : Vl a := fun c hc => h c (List.mem_append_left _ hc)
theorem Vl.right {a b : List Cm} (h : Vl (a ++ b)) : Vl b := fun c hc => h c (List.mem_append_right _ hc)
theorem keep_ok {n : Nat} (h : 1 ≤ n) : Cm.ok ⟨1, n, []⟩ := .inl ⟨rfl, by show (1 : Int) ≤ n; omega, rfl⟩
theorem cut_ok {n : Nat} (h : 1 ≤ n) : Cm.ok ⟨3, n, []⟩ := .inr (.inr ⟨rfl, by show (1 : Int) ≤ n; omega, rfl⟩)
theorem put_ok {s : List UInt8} (h : s ≠ []) : Cm.ok ⟨2, 0, s⟩ := .inr (.inl ⟨rfl, rfl, h⟩)
@[simp] theorem at_keep (n : Nat) : Cm.at_ ⟨1, n, []⟩ = keeps n := by simp [Cm.at_]
@[simp] theorem at_cut (n : Nat) : Cm.at_ ⟨3, n, []⟩ = cuts n := by simp [Cm.at_]
@[simp] theorem at_put (s : List UInt8) : Cm.at_ ⟨2, 0, s⟩ = puts s := by simp [Cm.at_]
/-- A part is a keep, a cut, a put. -/
theorem Cm.cases {c : Cm} (h : c.ok) : (∃ n : Nat, 1 ≤ n ∧ c = ⟨1, n, []⟩) ∨ (∃ s, s ≠ [] ∧ c = ⟨2, 0, s⟩) ∨ (∃ n : Nat, 1 ≤ n ∧ c = ⟨3, n, []⟩) := by
  obtain ⟨k, n, s⟩ := c
  rcases h with ⟨h1, h2, h3⟩ | ⟨h1, h2, h3⟩ | ⟨h1, h2, h3⟩ <;> simp only at h1 h2 h3 <;> subst h1
  · subst h3; exact .inl ⟨n.toNat, by omega, by congr; omega⟩
  · subst h2; exact .inr (.inl ⟨s, h3, rfl⟩)
  · subst h3; exact .inr (.inr ⟨n.toNat, by omega, by congr; omega⟩)

def kp (n : Nat) : List Cm := if n = 0 then [] else [⟨1, n, []⟩]
def pp (s : List UInt8) : List Cm := if s = [] then [] else [⟨2, 0, s⟩]
def cp (n : Nat) : List Cm := if n = 0 then [] else [⟨3, n, []⟩]
@[simp] theorem at_kp (n : Nat) : at_ (kp n) = keeps n := by unfold kp; split <;> simp_all [keeps]
@[simp] theorem at_pp (s : List UInt8) : at_ (pp s) = puts s := by unfold pp; split <;> simp_all [puts]
@[simp] theorem at_cp (n : Nat) : at_ (cp n) = cuts n := by unfold cp; split <;> simp_all [cuts]
theorem kp_ok (n : Nat) : Vl (kp n) := by unfold kp; split; exact Vl.nil; exact Vl.cons (keep_ok (by omega)) Vl.nil
theorem pp_ok (s : List UInt8) : Vl (pp s) := by unfold pp; split; exact Vl.nil; exact Vl.cons (put_ok (by assumption)) Vl.nil
theorem cp_ok (n : Nat) : Vl (cp n) := by unfold cp; split; exact Vl.nil; exact Vl.cons (cut_ok (by omega)) Vl.nil

/-- The normal form, as it is written. -/
def nfGo : List A → Nat → List UInt8 → Nat → List Cm
  | [], k, p, c => kp k ++ pp p ++ cp c
  | K :: x, k, p, c => if p = [] ∧ c = 0 then nfGo x (k + 1) [] 0 else kp k ++ pp p ++ cp c ++ nfGo x 1 [] 0
  | C :: x, k, p, c => nfGo x k p (c + 1)
  | P b :: x, k, p, c => nfGo x k (p ++ [b]) c
def nf (x : List A) : List Cm := nfGo x 0 [] 0
theorem keeps_add (a b : Nat) : keeps (a + b) = keeps a ++ keeps b := by simp [keeps, List.replicate_append_replicate]
theorem cuts_add (a b : Nat) : cuts (a + b) = cuts a ++ cuts b := by simp [cuts, List.replicate_append_replicate]
theorem puts_append (a b : List UInt8) : puts (a ++ b) = puts a ++ puts b := by simp [puts]
theorem at_nfGo (x : List A) : ∀ k p c, at_ (nfGo x k p c) = keeps k ++ normGo x p c := by
  induction x with
  | nil => intro k p c; simp [nfGo, normGo]
  | cons a x ih =>
    intro k p c
    cases a
    · simp only [nfGo, normGo]
      split
      · rename_i h; rw [h.1, h.2, ih, keeps_add]; simp [puts, cuts, keeps]
      · rw [at_append, ih]; simp [keeps]
    · simp [nfGo, normGo, ih]
    · simp [nfGo, normGo, ih]
theorem at_nf (x : List A) : at_ (nf x) = norm x := by simp [nf, norm, at_nfGo, keeps]
theorem nfGo_puts (q : List UInt8) (k : Nat) (p : List UInt8) (c : Nat) (x : List A) : nfGo (puts q ++ x) k p c = nfGo x k (p ++ q) c := by
  induction q generalizing p with
  | nil => simp [puts]
  | cons b q ih =>
    have := ih (p ++ [b])
    rw [List.append_assoc, List.singleton_append] at this
    simpa [puts, nfGo] using this
theorem nfGo_cuts (n : Nat) (k : Nat) (p : List UInt8) (c : Nat) (x : List A) : nfGo (cuts n ++ x) k p c = nfGo x k p (c + n) := by
  induction n generalizing c with
  | zero => simp [cuts]
  | succ n ih =>
    have := ih (c + 1)
    rw [Nat.add_right_comm, Nat.add_assoc] at this
    simpa [cuts, List.replicate_succ, nfGo] using this
theorem nfGo_keeps0 (n : Nat) (k : Nat) (x : List A) : nfGo (keeps n ++ x) k [] 0 = nfGo x (k + n) [] 0 := by
  induction n generalizing k with
  | zero => simp [keeps]
  | succ n ih =>
    have := ih (k + 1)
    rw [Nat.add_right_comm, Nat.add_assoc] at this
    simpa [keeps, List.replicate_succ, nfGo] using this
theorem nfGo_keeps (n : Nat) (k : Nat) (p : List UInt8) (c : Nat) (x : List A) (hn : 1 ≤ n) (h : ¬ (p = [] ∧ c = 0)) : nfGo (keeps n ++ x) k p c = kp k ++ pp p ++ cp c ++ nfGo x n [] 0 := by
  obtain ⟨m, rfl⟩ : ∃ m, n = m + 1 := ⟨n - 1, by omega⟩
  have := nfGo_keeps0 m 1 x
  simp only [keeps, List.replicate_succ, List.cons_append, nfGo, if_neg h]
  rw [show List.replicate m K = keeps m from rfl, this, Nat.add_comm 1 m]
theorem nfGo_norm (x : List A) : ∀ k p c, nfGo (normGo x p c) k [] 0 = nfGo x k p c := by
  induction x with
  | nil =>
    intro k p c
    simp only [normGo]
    rw [nfGo_puts, ← List.append_nil (cuts c), nfGo_cuts]; simp [nfGo]
  | cons a x ih =>
    intro k p c
    cases a <;> simp only [normGo]
    · rw [List.append_assoc, nfGo_puts, nfGo_cuts]
      simp only [nfGo, List.nil_append, Nat.zero_add, ih]
    · rw [ih]; simp [nfGo]
    · rw [ih]; simp [nfGo]
theorem nf_norm (x : List A) : nf (norm x) = nf x := nfGo_norm x 0 [] 0
theorem nf_eq {x y : List A} (h : norm x = norm y) : nf x = nf y := by rw [← nf_norm x, ← nf_norm y, h]
theorem nf_ok (x : List A) : ∀ k p c, Vl (nfGo x k p c) := by
  induction x with
  | nil => intro k p c; exact ((kp_ok k).append (pp_ok p)).append (cp_ok c)
  | cons a x ih =>
    intro k p c
    cases a <;> simp only [nfGo]
    · split
      · exact ih _ _ _
      · exact (((kp_ok k).append (pp_ok p)).append (cp_ok c)).append (ih _ _ _)
    · exact ih _ _ _
    · exact ih _ _ _

/-! ### Side by side -/
def pairA : List A → List A → List A × List A
  | P x :: a, b => (P x :: (pairA a b).1, K :: (pairA a b).2)
  | a, P y :: b => (K :: (pairA a b).1, P y :: (pairA a b).2)
  | K :: a, K :: b => (K :: (pairA a b).1, K :: (pairA a b).2)
  | C :: a, K :: b => (C :: (pairA a b).1, (pairA a b).2)
  | K :: a, C :: b => ((pairA a b).1, C :: (pairA a b).2)
  | C :: a, C :: b => pairA a b
  | [], _ => ([], [])
  | _ :: _, [] => ([], [])
termination_by a b => a.length + b.length
theorem pairA_PL (a b : List A) (x : UInt8) : pairA (P x :: a) b = (P x :: (pairA a b).1, K :: (pairA a b).2) := by
  cases b <;> simp [pairA]
theorem pairA_PR (a b : List A) (y : UInt8) (h : ∀ a' x, a ≠ P x :: a') : pairA a (P y :: b) = (K :: (pairA a b).1, P y :: (pairA a b).2) := by
  cases a with
  | nil => simp [pairA]
  | cons z a => cases z with
    | P x => exact absurd rfl (h a x)
    | K => simp [pairA]
    | C => simp [pairA]
theorem pair_ind {motive : List A → List A → Prop} (hn : motive [] [])
    (pl : ∀ a b x, ins a = ins b → motive a b → motive (P x :: a) b)
    (pr : ∀ a b y, (∀ a' x, a ≠ P x :: a') → ins a = ins b → motive a b → motive a (P y :: b))
    (kk : ∀ a b, ins a = ins b → motive a b → motive (K :: a) (K :: b)) (ck : ∀ a b, ins a = ins b → motive a b → motive (C :: a) (K :: b))
    (kc : ∀ a b, ins a = ins b → motive a b → motive (K :: a) (C :: b)) (cc : ∀ a b, ins a = ins b → motive a b → motive (C :: a) (C :: b)) :
    ∀ a b : List A, ins a = ins b → motive a b := by
  suffices H : ∀ n (a b : List A), a.length + b.length ≤ n → ins a = ins b → motive a b from fun a b h => H _ a b (Nat.le_refl _) h
  intro n
  induction n with
  | zero =>
    intro a b hn' _
    have h1 : a = [] := List.eq_nil_of_length_eq_zero (by omega)
    have h2 : b = [] := List.eq_nil_of_length_eq_zero (by omega)
    subst h1 h2; exact hn
  | succ n ih =>
    intro a b hl h
    match a, b with
    | [], [] => exact hn
    | P x :: a, b => exact pl a b x (by simpa [ins] using h) (ih a b (by simp only [List.length_cons] at hl; omega) (by simpa [ins] using h))
    | [], P y :: b => exact pr [] b y (by simp) (by simpa [ins] using h) (ih [] b (by simp only [List.length_cons] at hl ⊢; omega) (by simpa [ins] using h))
    | K :: a, P y :: b => exact pr _ b y (by simp) (by simpa [ins] using h) (ih _ b (by simp only [List.length_cons] at hl ⊢; omega) (by simpa [ins] using h))
    | C :: a, P y :: b => exact pr _ b y (by simp) (by simpa [ins] using h) (ih _ b (by simp only [List.length_cons] at hl ⊢; omega) (by simpa [ins] using h))
    | K :: a, K :: b => exact kk a b (by simpa [ins] using h) (ih a b (by simp only [List.length_cons] at hl; omega) (by simpa [ins] using h))
    | K :: a, C :: b => exact kc a b (by simpa [ins] using h) (ih a b (by simp only [List.length_cons] at hl; omega) (by simpa [ins] using h))
    | C :: a, K :: b => exact ck a b (by simpa [ins] using h) (ih a b (by simp only [List.length_cons] at hl; omega) (by simpa [ins] using h))
    | C :: a, C :: b => exact cc a b (by simpa [ins] using h) (ih a b (by simp only [List.length_cons] at hl; omega) (by simpa [ins] using h))
    | [], K :: b => simp [ins] at h
    | [], C :: b => simp [ins] at h
    | K :: a, [] => simp [ins] at h
    | C :: a, [] => simp [ins] at h
theorem pair_ins (a b : List A) (h : ins a = ins b) : ins (pairA a b).1 = outs b ∧ ins (pairA a b).2 = outs a := by
  refine pair_ind (motive := fun a b => ins (pairA a b).1 = outs b ∧ ins (pairA a b).2 = outs a) ?_ ?_ ?_ ?_ ?_ ?_ ?_ a b h
  · simp [pairA, ins, outs]
  · intro a b x _ ih; rw [pairA_PL]; simp [ins, outs, ih]
  · intro a b y hx _ ih; rw [pairA_PR _ _ _ hx]; simp [ins, outs, ih]
  all_goals (intro a b _ ih; simp [pairA, ins, outs, ih])
theorem pair_outs (a b : List A) (h : ins a = ins b) : outs (pairA a b).1 = outs (pairA a b).2 := by
  refine pair_ind (motive := fun a b => outs (pairA a b).1 = outs (pairA a b).2) ?_ ?_ ?_ ?_ ?_ ?_ ?_ a b h
  · simp [pairA, outs]
  · intro a b x _ ih; rw [pairA_PL]; simp [outs, ih]
  · intro a b y hx _ ih; rw [pairA_PR _ _ _ hx]; simp [outs, ih]
  all_goals (intro a b _ ih; simp [pairA, outs, ih])
theorem pair_meets {α : Type} (f : UInt8 → α) (a b : List A) (h : ins a = ins b) : ∀ d : List α, d.length = ins a → app f (pairA a b).2 (app f a d) = app f (pairA a b).1 (app f b d) := by
  refine pair_ind (motive := fun a b => ∀ d : List α, d.length = ins a → app f (pairA a b).2 (app f a d) = app f (pairA a b).1 (app f b d)) ?_ ?_ ?_ ?_ ?_ ?_ ?_ a b h
  · intro d _; simp [pairA, app]
  · intro a b x _ ih d hd; rw [pairA_PL]; simp only [ins] at hd; simp [app, ih d hd]
  · intro a b y hx _ ih d hd
    rw [pairA_PR _ _ _ hx]; simp [app, ih d hd]
  all_goals (
    intro a b _ ih d hd
    cases d with
    | nil => simp [ins] at hd
    | cons d0 d => simp only [ins, List.length_cons] at hd; simp [pairA, app, ih d (by omega)])
/-- How many bytes are put, and cut. -/
def nput : List A → Nat
  | [] => 0
  | P _ :: x => nput x + 1
  | K :: x => nput x
  | C :: x => nput x
def ncut : List A → Nat
  | [] => 0
  | C :: x => ncut x + 1
  | K :: x => ncut x
  | P _ :: x => ncut x
@[simp] theorem nput_append (x y : List A) : nput (x ++ y) = nput x + nput y := by
  induction x with
  | nil => simp [nput]
  | cons a x ih => cases a <;> simp [nput, ih] <;> omega
@[simp] theorem ncut_append (x y : List A) : ncut (x ++ y) = ncut x + ncut y := by
  induction x with
  | nil => simp [ncut]
  | cons a x ih => cases a <;> simp [ncut, ih] <;> omega
@[simp] theorem nput_puts (p : List UInt8) : nput (puts p) = p.length := by
  induction p with
  | nil => rfl
  | cons b p ih => simpa [puts, nput] using ih
@[simp] theorem ncut_puts (p : List UInt8) : ncut (puts p) = 0 := by
  induction p with
  | nil => rfl
  | cons b p ih => simpa [puts, ncut] using ih
@[simp] theorem nput_cuts (c : Nat) : nput (cuts c) = 0 := by
  induction c with
  | zero => rfl
  | succ c ih => simpa [cuts, List.replicate_succ, nput] using ih
@[simp] theorem ncut_cuts (c : Nat) : ncut (cuts c) = c := by
  induction c with
  | zero => rfl
  | succ c ih => simpa [cuts, List.replicate_succ, ncut] using ih
@[simp] theorem nput_keeps (c : Nat) : nput (keeps c) = 0 := by
  induction c with
  | zero => rfl
  | succ c ih => simpa [keeps, List.replicate_succ, nput] using ih
@[simp] theorem ncut_keeps (c : Nat) : ncut (keeps c) = 0 := by
  induction c with
  | zero => rfl
  | succ c ih => simpa [keeps, List.replicate_succ, ncut] using ih
theorem outs_ins (x : List A) : outs x + ncut x = ins x + nput x := by
  induction x with
  | nil => rfl
  | cons a x ih => cases a <;> simp [outs, ncut, ins, nput] <;> omega
theorem nput_normGo (x : List A) : ∀ p c, nput (normGo x p c) = p.length + nput x := by
  induction x with
  | nil => intro p c; simp [normGo, nput]
  | cons a x ih => intro p c; cases a <;> simp [normGo, nput, ih] <;> omega
theorem ncut_normGo (x : List A) : ∀ p c, ncut (normGo x p c) = c + ncut x := by
  induction x with
  | nil => intro p c; simp [normGo, ncut]
  | cons a x ih => intro p c; cases a <;> simp [normGo, ncut, ih] <;> omega
theorem nput_norm (x : List A) : nput (norm x) = nput x := by simp [norm, nput_normGo]
theorem ncut_norm (x : List A) : ncut (norm x) = ncut x := by simp [norm, ncut_normGo]
theorem nput_le (x : List A) : nput x ≤ outs x := by
  induction x with
  | nil => simp [nput, outs]
  | cons a x ih => cases a <;> simp [nput, outs] <;> omega
theorem pair_nput (a b : List A) (h : ins a = ins b) : nput (pairA a b).1 = nput a ∧ nput (pairA a b).2 = nput b := by
  refine pair_ind (motive := fun a b => nput (pairA a b).1 = nput a ∧ nput (pairA a b).2 = nput b) ?_ ?_ ?_ ?_ ?_ ?_ ?_ a b h
  · simp [pairA, nput]
  · intro a b x _ ih; rw [pairA_PL]; simp [nput, ih]
  · intro a b y hx _ ih; rw [pairA_PR _ _ _ hx]; simp [nput, ih]
  all_goals (intro a b _ ih; simp [pairA, nput, ih])
/-- An operation beside what keeps all. -/
theorem pair_keeps (a : List A) : pairA a (keeps (ins a)) = (a, keeps (outs a)) := by
  induction a with
  | nil => simp [pairA, ins, outs, keeps]
  | cons x a ih =>
    cases x
    · simp only [keeps] at ih; simp [ins, outs, keeps, List.replicate_succ, pairA, ih]
    · simp only [keeps] at ih; simp [ins, outs, keeps, List.replicate_succ, pairA, ih]
    · simp only [ins, outs]; rw [pairA_PL, ih]; simp [keeps, List.replicate_succ]
theorem keeps_pair (a : List A) : pairA (keeps (ins a)) a = (keeps (outs a), a) := by
  induction a with
  | nil => simp [pairA, ins, outs, keeps]
  | cons x a ih =>
    cases x
    · simp only [keeps] at ih; simp [ins, outs, keeps, List.replicate_succ, pairA, ih]
    · simp only [keeps] at ih; simp [ins, outs, keeps, List.replicate_succ, pairA, ih]
    · simp only [ins, outs]; rw [pairA_PR, ih]
      · simp [keeps, List.replicate_succ]
      · intro a' x; cases h : ins a <;> simp [keeps, List.replicate_succ]

/-! ### Undone -/
def inv : List A → List UInt8 → List A
  | [], _ => []
  | K :: x, d => K :: inv x d.tail
  | C :: x, d => puts (d.take 1) ++ inv x d.tail
  | P _ :: x, d => C :: inv x d
theorem inv_ins (x : List A) : ∀ d, ins (inv x d) = outs x := by
  induction x with
  | nil => intro d; rfl
  | cons a x ih => intro d; cases a <;> simp [inv, ins, outs, ih]
theorem inv_outs (x : List A) : ∀ d, ins x ≤ d.length → outs (inv x d) = ins x := by
  induction x with
  | nil => intro d _; rfl
  | cons a x ih =>
    intro d h
    cases a <;> simp only [ins] at h
    · cases d with
      | nil => simp at h
      | cons d0 d => simp only [List.length_cons] at h; simp [inv, ins, outs, ih d (by omega)]
    · cases d with
      | nil => simp at h
      | cons d0 d => simp only [List.length_cons] at h; simp [inv, ins, ih d (by omega)]; omega
    · simp [inv, ins, outs, ih d h]
theorem inv_nput (x : List A) : ∀ d, ins x ≤ d.length → nput (inv x d) = ncut x ∧ ncut (inv x d) = nput x := by
  induction x with
  | nil => intro d _; exact ⟨rfl, rfl⟩
  | cons a x ih =>
    intro d h
    cases a <;> simp only [ins] at h
    · cases d with
      | nil => simp at h
      | cons d0 d => simp only [List.length_cons] at h; simp [inv, nput, ncut, ih d (by omega)]
    · cases d with
      | nil => simp at h
      | cons d0 d => simp only [List.length_cons] at h; simp [inv, nput, ncut, ih d (by omega)]; omega
    · simp [inv, nput, ncut, ih d h]
theorem inv_back (x : List A) : ∀ d : List UInt8, d.length = ins x → app id (inv x d) (app id x d) = d := by
  induction x with
  | nil => intro d h; simp only [ins] at h; simp [inv, app, List.eq_nil_of_length_eq_zero h]
  | cons a x ih =>
    intro d h
    cases a <;> simp only [ins] at h
    · cases d with
      | nil => simp at h
      | cons d0 d => simp only [List.length_cons] at h; simp [inv, app, ih d (by omega)]
    · cases d with
      | nil => simp at h
      | cons d0 d => simp only [List.length_cons] at h; simp [inv, app, puts, ih d (by omega)]
    · simp [inv, app, ih d h]
theorem inv_append (x y : List A) : ∀ d, inv (x ++ y) d = inv x d ++ inv y (d.drop (ins x)) := by
  induction x with
  | nil => intro d; simp [inv, ins]
  | cons a x ih => intro d; cases a <;> simp [inv, ins, ih]
theorem inv_keeps (n : Nat) : ∀ d, inv (keeps n) d = keeps n := by
  induction n with
  | zero => intro d; rfl
  | succ n ih => intro d; simpa [keeps, List.replicate_succ, inv] using ih _
theorem inv_cuts (n : Nat) : ∀ d, inv (cuts n) d = puts (d.take n) := by
  induction n with
  | zero => intro d; simp [cuts, inv, puts]
  | succ n ih =>
    intro d
    have := ih d.tail
    cases d with
    | nil => simpa [cuts, List.replicate_succ, inv, puts] using this
    | cons d0 d => simpa [cuts, List.replicate_succ, inv, puts] using this
theorem inv_puts (s : List UInt8) : ∀ d, inv (puts s) d = cuts s.length := by
  induction s with
  | nil => intro d; rfl
  | cons b s ih => intro d; simpa [cuts, List.replicate_succ, inv, puts] using ih d

/-! ### Sizes of parts -/
def inC (l : List Cm) : Nat := ins (at_ l)
def outC (l : List Cm) : Nat := outs (at_ l)

/-- What may stand behind what in a normal form. -/
def next (a b : Int) : Prop := (a = 1 ∧ (b = 2 ∨ b = 3)) ∨ (a = 2 ∧ (b = 1 ∨ b = 3)) ∨ (a = 3 ∧ b = 1)
def Formed : List Cm → Prop
  | [] => True
  | [_] => True
  | a :: b :: l => next a.k b.k ∧ Formed (b :: l)
/-- It begins with a keep, or is empty. -/
def Kh (l : List Cm) : Prop := ∃ n m, l = ⟨1, n, []⟩ :: m
theorem formed_app (k c : Nat) (p : List UInt8) (l : List Cm) (h : Formed l) (hk : l = [] ∨ Kh l) (hg : l = [] ∨ ¬ (p = [] ∧ c = 0)) : Formed (kp k ++ pp p ++ cp c ++ l) := by
  rcases hk with rfl | ⟨n, m, rfl⟩
  · unfold kp pp cp
    split <;> split <;> split <;> simp [Formed, next]
  · have hg' : ¬ (p = [] ∧ c = 0) := by rcases hg with h | h; cases h; exact h
    unfold kp pp cp
    split <;> split <;> split <;> simp_all [Formed, next]
theorem formed_nfGo (x : List A) : ∀ k p c, Formed (nfGo x k p c) ∧ (k ≠ 0 → Kh (nfGo x k p c)) := by
  induction x with
  | nil =>
    intro k p c
    refine ⟨?_, ?_⟩
    · have := formed_app k c p [] trivial (.inl rfl) (.inl rfl); simpa [nfGo] using this
    · intro hk; exact ⟨k, pp p ++ cp c, by simp [nfGo, kp, hk]⟩
  | cons a x ih =>
    intro k p c
    cases a
    · simp only [nfGo]
      split
      · exact ⟨(ih _ _ _).1, fun _ => (ih _ _ _).2 (by omega)⟩
      · rename_i hg
        refine ⟨formed_app k c p _ (ih 1 [] 0).1 (.inr ((ih 1 [] 0).2 (by omega))) (.inr hg), ?_⟩
        intro hk
        exact ⟨k, pp p ++ cp c ++ nfGo x 1 [] 0, by simp [kp, hk]⟩
    · exact ih _ _ _
    · exact ih _ _ _
theorem formed_nf (x : List A) : Formed (nf x) := (formed_nfGo x 0 [] 0).1
theorem Formed.at_ {l : List Cm} (h : Formed l) : ∀ (i : Nat) (a b : Cm), l[i]? = some a → l[i + 1]? = some b → next a.k b.k := by
  induction l with
  | nil => intro i a b h1; simp at h1
  | cons x l ih =>
    intro i a b h1 h2
    cases l with
    | nil => simp at h2
    | cons y l =>
      cases i with
      | zero => simp at h1 h2; subst h1 h2; exact h.1
      | succ i => exact ih h.2 i a b (by simpa using h1) (by simpa using h2)

/-! ### Taken a piece at a time -/
def csz (c : Cm) : Nat := if c.k = 2 then c.s.length else c.n.toNat
def fr (m : Nat) (c : Cm) : Cm := if c.k = 2 then ⟨2, c.n, c.s.take m⟩ else ⟨c.k, m, c.s⟩
def bk (m : Nat) (c : Cm) : Cm := if c.k = 2 then ⟨2, c.n, c.s.drop m⟩ else ⟨c.k, c.n - m, c.s⟩
def bks (m : Nat) (c : Cm) (l : List Cm) : List Cm := if m < csz c then bk m c :: l else l
/-- What is left behind k parts and g bytes of the next one. -/
def rest (l : List Cm) (k g : Nat) : List Cm := match l.drop k with
  | [] => []
  | c :: l' => bk g c :: l'
theorem csz_pos {c : Cm} (h : c.ok) : 1 ≤ csz c := by
  rcases Cm.cases h with ⟨n, hn, rfl⟩ | ⟨s, hs, rfl⟩ | ⟨n, hn, rfl⟩
  · simpa [csz] using hn
  · have := List.length_pos_iff.2 hs; simp only [csz, if_true]; omega
  · simpa [csz] using hn
theorem csz_at {c : Cm} (h : c.ok) : c.at_.length = csz c := by
  rcases Cm.cases h with ⟨n, hn, rfl⟩ | ⟨s, hs, rfl⟩ | ⟨n, hn, rfl⟩ <;> simp [csz, keeps, puts, cuts]
theorem fr_ok {c : Cm} (h : c.ok) {m : Nat} (h1 : 1 ≤ m) (h2 : m ≤ csz c) : (fr m c).ok ∧ csz (fr m c) = m ∧ (fr m c).k = c.k := by
  rcases Cm.cases h with ⟨n, hn, rfl⟩ | ⟨s, hs, rfl⟩ | ⟨n, hn, rfl⟩
  · simp [fr, csz]; exact keep_ok h1
  · simp only [csz, if_true] at h2
    have hl : (s.take m).length = m := by rw [List.length_take]; omega
    refine ⟨?_, ?_, ?_⟩
    · simp only [fr, if_true]; exact put_ok (by intro e; rw [e] at hl; simp at hl; omega)
    · simp [fr, csz]; omega
    · simp [fr]
  · simp [fr, csz]; exact cut_ok h1
theorem bk_ok {c : Cm} (h : c.ok) {m : Nat} (h2 : m < csz c) : (bk m c).ok ∧ csz (bk m c) = csz c - m ∧ (bk m c).k = c.k := by
  rcases Cm.cases h with ⟨n, hn, rfl⟩ | ⟨s, hs, rfl⟩ | ⟨n, hn, rfl⟩
  · simp only [csz] at h2
    have e : ((n : Int) - (m : Int)) = ((n - m : Nat) : Int) := by simp at h2; omega
    simp only [bk, csz]
    rw [if_neg (by simp), if_neg (by simp), e]
    refine ⟨keep_ok (by simp at h2; omega), by simp, rfl⟩
  · simp only [csz, if_true] at h2
    have hl : (s.drop m).length = s.length - m := List.length_drop
    refine ⟨?_, ?_, ?_⟩
    · simp only [bk, if_true]; exact put_ok (by intro e; rw [e] at hl; simp at hl; omega)
    · simp [bk, csz]
    · simp [bk]
  · simp only [csz] at h2
    have e : ((n : Int) - (m : Int)) = ((n - m : Nat) : Int) := by simp at h2; omega
    simp only [bk, csz]
    rw [if_neg (by simp), if_neg (by simp), e]
    refine ⟨cut_ok (by simp at h2; omega), by simp, rfl⟩
theorem bks_vl {c : Cm} {l : List Cm} (h : Vl (c :: l)) (m : Nat) : Vl (bks m c l) := by
  unfold bks
  split
  · rename_i hm; exact Vl.cons (bk_ok h.head hm).1 h.tail
  · exact h.tail
theorem fr_bks {c : Cm} {l : List Cm} (h : c.ok) {m : Nat} (h2 : m ≤ csz c) : (fr m c).at_ ++ at_ (bks m c l) = at_ (c :: l) := by
  have hb : (fr m c).at_ ++ (bk m c).at_ = c.at_ := by
    rcases Cm.cases h with ⟨n, hn, rfl⟩ | ⟨s, hs, rfl⟩ | ⟨n, hn, rfl⟩
    · simp only [csz] at h2
      have e : ((n : Int) - (m : Int)) = ((n - m : Nat) : Int) := by simp at h2; omega
      simp only [fr, bk]
      rw [if_neg (by simp), if_neg (by simp), e]
      simp only [at_keep]
      rw [← keeps_add]; congr 1; simp at h2; omega
    · simp [fr, bk, ← puts_append]
    · simp only [csz] at h2
      have e : ((n : Int) - (m : Int)) = ((n - m : Nat) : Int) := by simp at h2; omega
      simp only [fr, bk]
      rw [if_neg (by simp), if_neg (by simp), e]
      simp only [at_cut]
      rw [← cuts_add]; congr 1; simp at h2; omega
  unfold bks
  split
  · rw [at_cons, at_cons, ← List.append_assoc, hb]
  · have hm : m = csz c := by omega
    have : (bk m c).at_ = [] := by
      rcases Cm.cases h with ⟨n, hn, rfl⟩ | ⟨s, hs, rfl⟩ | ⟨n, hn, rfl⟩ <;> simp [csz] at hm <;> simp [bk, hm, Cm.at_, keeps, cuts, puts]
    rw [this, List.append_nil] at hb
    rw [hb, at_cons]
theorem fr_whole {c : Cm} (h : c.ok) {m : Nat} (hm : csz c ≤ m) : fr (csz c) c = c ∧ bks m c = fun l => l := by
  constructor
  · rcases Cm.cases h with ⟨n, hn, rfl⟩ | ⟨s, hs, rfl⟩ | ⟨n, hn, rfl⟩ <;> simp [fr, csz]
  · funext l; unfold bks; rw [if_neg (by omega)]
/-- The cursor's own steps. -/
theorem rest_end {l : List Cm} {k g : Nat} (h : l.length ≤ k) : rest l k g = [] := by unfold rest; rw [List.drop_eq_nil_of_le h]
theorem rest_at {l : List Cm} {k g : Nat} (h : k < l.length) : rest l k g = bk g l[k] :: l.drop (k + 1) := by unfold rest; rw [List.drop_eq_getElem_cons h]
theorem rest_next {l : List Cm} (hv : Vl l) {k : Nat} : rest l k 0 = l.drop k := by
  by_cases h : k < l.length
  · rw [rest_at h, List.drop_eq_getElem_cons h]
    congr 1
    rcases Cm.cases (hv _ (List.getElem_mem h)) with ⟨n, hn, e⟩ | ⟨s, hs, e⟩ | ⟨n, hn, e⟩ <;> rw [e] <;> simp [bk]
  · rw [rest_end (by omega), List.drop_eq_nil_of_le (by omega)]
theorem bk_bk {c : Cm} (h : c.ok) (g m : Nat) : bk m (bk g c) = bk (g + m) c := by
  rcases Cm.cases h with ⟨n, hn, rfl⟩ | ⟨s, hs, rfl⟩ | ⟨n, hn, rfl⟩
  · simp [bk] <;> omega
  · simp [bk, List.drop_drop]
  · simp [bk] <;> omega
theorem csz_bk {c : Cm} (h : c.ok) (g : Nat) : csz (bk g c) = csz c - g := by
  rcases Cm.cases h with ⟨n, hn, rfl⟩ | ⟨s, hs, rfl⟩ | ⟨n, hn, rfl⟩
  · simp [bk, csz] <;> omega
  · simp [bk, csz]
  · simp [bk, csz] <;> omega
/-- How a row is gone on in: the place behind m more bytes. -/
def nextK (l : List Cm) (k g m : Nat) : Nat := if h : k < l.length then (if g + m < csz l[k] then k else k + 1) else k
def nextG (l : List Cm) (k g m : Nat) : Nat := if h : k < l.length then (if g + m < csz l[k] then g + m else 0) else g
theorem rest_go {l : List Cm} (hv : Vl l) {k g m : Nat} (h : k < l.length) (hg : g < csz l[k]) :
    rest l (nextK l k g m) (nextG l k g m) = bks m (bk g l[k]) (l.drop (k + 1)) := by
  have hok := hv _ (List.getElem_mem h)
  unfold nextK nextG bks
  rw [dif_pos h, dif_pos h, csz_bk hok]
  by_cases h2 : g + m < csz l[k]
  · rw [if_pos h2, if_pos h2, if_pos (by omega), rest_at h, bk_bk hok]
  · rw [if_neg h2, if_neg h2, if_neg (by omega), rest_next hv]

/-! ### What is taken together, a piece at a time -/
theorem comp_cuts (n : Nat) (a b : List A) : comp (cuts n ++ a) b = cuts n ++ comp a b := by
  induction n with
  | zero => simp [cuts]
  | succ n ih => simp only [cuts, List.replicate_succ, List.cons_append] at ih ⊢; rw [comp_CL, ih]
theorem comp_puts (s : List UInt8) (a b : List A) (h : ∀ a', a ≠ C :: a') : comp a (puts s ++ b) = puts s ++ comp a b := by
  induction s with
  | nil => simp [puts]
  | cons x s ih => simp only [puts, List.map_cons, List.cons_append] at ih ⊢; rw [comp_PR _ _ _ h, ih]
theorem comp_kk (n : Nat) (a b : List A) : comp (keeps n ++ a) (keeps n ++ b) = keeps n ++ comp a b := by
  induction n with
  | zero => simp [keeps]
  | succ n ih => simp only [keeps, List.replicate_succ, List.cons_append] at ih ⊢; simp only [comp]; rw [ih]
theorem comp_kc (n : Nat) (a b : List A) : comp (keeps n ++ a) (cuts n ++ b) = cuts n ++ comp a b := by
  induction n with
  | zero => simp [keeps, cuts]
  | succ n ih => simp only [keeps, cuts, List.replicate_succ, List.cons_append] at ih ⊢; simp only [comp]; rw [ih]
theorem comp_pk (s : List UInt8) (a b : List A) : comp (puts s ++ a) (keeps s.length ++ b) = puts s ++ comp a b := by
  induction s with
  | nil => simp [puts, keeps]
  | cons x s ih => simp only [puts, keeps, List.length_cons, List.map_cons, List.replicate_succ, List.cons_append] at ih ⊢; simp only [comp]; rw [ih]
theorem comp_pc (s : List UInt8) (a b : List A) : comp (puts s ++ a) (cuts s.length ++ b) = comp a b := by
  induction s with
  | nil => simp [puts, cuts]
  | cons x s ih => simp only [puts, cuts, List.length_cons, List.map_cons, List.replicate_succ, List.cons_append] at ih ⊢; simp only [comp]; rw [ih]
/-- What becomes of two pieces of one size, of which the first is no cut, and the second no put. -/
def bothC (a b : Cm) : List Cm := if b.k = 1 then [a] else if a.k = 1 then [b] else []
theorem comp_both {a b : Cm} (ha : a.ok) (hb : b.ok) (h : csz a = csz b) (h1 : a.k ≠ 3) (h2 : b.k ≠ 2) (x y : List A) : comp (a.at_ ++ x) (b.at_ ++ y) = at_ (bothC a b) ++ comp x y := by
  rcases Cm.cases ha with ⟨n, hn, rfl⟩ | ⟨s, hs, rfl⟩ | ⟨n, hn, rfl⟩
  · rcases Cm.cases hb with ⟨m, hm, rfl⟩ | ⟨t, ht, rfl⟩ | ⟨m, hm, rfl⟩
    · simp [csz] at h; subst h; simp [bothC, comp_kk]
    · exact absurd rfl h2
    · simp [csz] at h; subst h; simp [bothC, comp_kc]
  · rcases Cm.cases hb with ⟨m, hm, rfl⟩ | ⟨t, ht, rfl⟩ | ⟨m, hm, rfl⟩
    · simp [csz] at h; subst h; simp [bothC, comp_pk]
    · exact absurd rfl h2
    · simp [csz] at h; subst h; simp [bothC, comp_pc]
  · exact absurd rfl h1
theorem bothC_vl {a b : Cm} (ha : a.ok) (hb : b.ok) : Vl (bothC a b) := by
  unfold bothC
  split
  · exact Vl.cons ha Vl.nil
  · split
    · exact Vl.cons hb Vl.nil
    · exact Vl.nil
theorem no_cut {c : Cm} (h : c.ok) (hk : c.k ≠ 3) (l a' : List A) : c.at_ ++ l ≠ C :: a' := by
  rcases Cm.cases h with ⟨n, hn, rfl⟩ | ⟨s, hs, rfl⟩ | ⟨n, hn, rfl⟩
  · rw [at_keep]
    obtain ⟨m, rfl⟩ : ∃ m, n = m + 1 := ⟨n - 1, by omega⟩
    simp [keeps, List.replicate_succ]
  · cases s with
    | nil => exact absurd rfl hs
    | cons x s => simp [puts]
  · exact absurd rfl hk
theorem no_put {c : Cm} (h : c.ok) (hk : c.k ≠ 2) (l a' : List A) (x : UInt8) : c.at_ ++ l ≠ P x :: a' := by
  rcases Cm.cases h with ⟨n, hn, rfl⟩ | ⟨s, hs, rfl⟩ | ⟨n, hn, rfl⟩
  · rw [at_keep]
    obtain ⟨m, rfl⟩ : ∃ m, n = m + 1 := ⟨n - 1, by omega⟩
    simp [keeps, List.replicate_succ]
  · exact absurd rfl hk
  · rw [at_cut]
    obtain ⟨m, rfl⟩ : ∃ m, n = m + 1 := ⟨n - 1, by omega⟩
    simp [cuts, List.replicate_succ]
/-- One step of what takes two together. -/
inductive CStep : List Cm → List Cm → List Cm → List Cm → List Cm → Prop where
  | cut (c : Cm) (l r : List Cm) (h : c.k = 3) : CStep (c :: l) r [c] l r
  | put (l : List Cm) (c : Cm) (r : List Cm) (h : c.k = 2) (hl : ∀ d m, l = d :: m → d.k ≠ 3) : CStep l (c :: r) [c] l r
  | both (a : Cm) (l : List Cm) (b : Cm) (r : List Cm) (h1 : a.k ≠ 3) (h2 : b.k ≠ 2) : CStep (a :: l) (b :: r) (bothC (fr (min (csz a) (csz b)) a) (fr (min (csz a) (csz b)) b)) (bks (min (csz a) (csz b)) a l) (bks (min (csz a) (csz b)) b r)
theorem CStep.vl {l r o l' r' : List Cm} (h : CStep l r o l' r') (hl : Vl l) (hr : Vl r) : Vl o ∧ Vl l' ∧ Vl r' := by
  cases h with
  | cut c _ _ hk => exact ⟨Vl.cons hl.head Vl.nil, hl.tail, hr⟩
  | put _ c _ hk _ => exact ⟨Vl.cons hr.head Vl.nil, hl, hr.tail⟩
  | both a l b r h1 h2 =>
    have p1 := csz_pos hl.head
    have p2 := csz_pos hr.head
    exact ⟨bothC_vl (fr_ok hl.head (by omega) (by omega)).1 (fr_ok hr.head (by omega) (by omega)).1, bks_vl hl _, bks_vl hr _⟩
theorem CStep.comp {l r o l' r' : List Cm} (h : CStep l r o l' r') (hl : Vl l) (hr : Vl r) : comp (at_ l) (at_ r) = at_ o ++ comp (at_ l') (at_ r') := by
  cases h with
  | cut c _ _ hk =>
    rcases Cm.cases hl.head with ⟨n, hn, rfl⟩ | ⟨s, hs, rfl⟩ | ⟨n, hn, rfl⟩
    · cases hk
    · cases hk
    · simp [comp_cuts]
  | put l c r hk hh =>
    rcases Cm.cases hr.head with ⟨n, hn, rfl⟩ | ⟨s, hs, rfl⟩ | ⟨n, hn, rfl⟩
    · cases hk
    · rw [at_cons, at_put, comp_puts]
      · simp
      · intro a'
        cases l with
        | nil => simp
        | cons d m => rw [at_cons]; exact no_cut hl.head (hh d m rfl) _ _
    · cases hk
  | both a l b r h1 h2 =>
    have p1 := csz_pos hl.head
    have p2 := csz_pos hr.head
    obtain ⟨f1, f2, f3⟩ := fr_ok hl.head (m := min (csz a) (csz b)) (by omega) (by omega)
    obtain ⟨g1, g2, g3⟩ := fr_ok hr.head (m := min (csz a) (csz b)) (by omega) (by omega)
    rw [← fr_bks hl.head (m := min (csz a) (csz b)) (by omega), ← fr_bks hr.head (m := min (csz a) (csz b)) (by omega)]
    exact comp_both f1 g1 (by rw [f2, g2]) (by rw [f3]; exact h1) (by rw [g3]; exact h2) _ _
theorem CStep.less {l r o l' r' : List Cm} (h : CStep l r o l' r') (hl : Vl l) (hr : Vl r) : (at_ l').length + (at_ r').length < (at_ l).length + (at_ r).length := by
  cases h with
  | cut c _ _ hk => have := csz_at hl.head; have := csz_pos hl.head; simp; omega
  | put _ c _ hk _ => have := csz_at hr.head; have := csz_pos hr.head; simp; omega
  | both a l b r h1 h2 =>
    have p1 := csz_pos hl.head
    have p2 := csz_pos hr.head
    obtain ⟨f1, f2, f3⟩ := fr_ok hl.head (m := min (csz a) (csz b)) (by omega) (by omega)
    obtain ⟨g1, g2, g3⟩ := fr_ok hr.head (m := min (csz a) (csz b)) (by omega) (by omega)
    rw [← fr_bks hl.head (m := min (csz a) (csz b)) (by omega), ← fr_bks hr.head (m := min (csz a) (csz b)) (by omega)]
    rw [List.length_append, List.length_append, csz_at f1, csz_at g1]; omega
theorem bothC_len (a b : Cm) : (bothC a b).length ≤ 1 := by unfold bothC; split; simp; split <;> simp
theorem CStep.len {l r o l' r' : List Cm} (h : CStep l r o l' r') : o.length ≤ 1 := by
  cases h with
  | cut c _ _ hk => simp
  | put _ c _ hk _ => simp
  | both a l b r h1 h2 => exact bothC_len _ _
theorem outs_csz {c : Cm} (h : c.ok) (hk : c.k ≠ 3) : outs c.at_ = csz c := by
  rcases Cm.cases h with ⟨n, hn, rfl⟩ | ⟨s, hs, rfl⟩ | ⟨n, hn, rfl⟩
  · simp [csz]
  · simp [csz]
  · exact absurd rfl hk
theorem ins_csz {c : Cm} (h : c.ok) (hk : c.k ≠ 2) : ins c.at_ = csz c := by
  rcases Cm.cases h with ⟨n, hn, rfl⟩ | ⟨s, hs, rfl⟩ | ⟨n, hn, rfl⟩
  · simp [csz]
  · exact absurd rfl hk
  · simp [csz]
/-- How much goes in and comes out is the same on both sides, still. -/
theorem CStep.fits {l r o l' r' : List Cm} (h : CStep l r o l' r') (hl : Vl l) (hr : Vl r) (e : outs (at_ l) = ins (at_ r)) : outs (at_ l') = ins (at_ r') := by
  cases h with
  | cut c _ _ hk =>
    rcases Cm.cases hl.head with ⟨n, hn, rfl⟩ | ⟨s, hs, rfl⟩ | ⟨n, hn, rfl⟩
    · cases hk
    · cases hk
    · simpa using e
  | put l c r hk hh =>
    rcases Cm.cases hr.head with ⟨n, hn, rfl⟩ | ⟨s, hs, rfl⟩ | ⟨n, hn, rfl⟩
    · cases hk
    · simpa using e
    · cases hk
  | both a l b r h1 h2 =>
    have p1 := csz_pos hl.head
    have p2 := csz_pos hr.head
    obtain ⟨f1, f2, f3⟩ := fr_ok hl.head (m := min (csz a) (csz b)) (by omega) (by omega)
    obtain ⟨g1, g2, g3⟩ := fr_ok hr.head (m := min (csz a) (csz b)) (by omega) (by omega)
    rw [← fr_bks hl.head (m := min (csz a) (csz b)) (by omega), ← fr_bks hr.head (m := min (csz a) (csz b)) (by omega), outs_append, ins_append] at e
    have o1 : outs (fr (min (csz a) (csz b)) a).at_ = min (csz a) (csz b) := by rw [outs_csz f1 (by rw [f3]; exact h1), f2]
    have o2 : ins (fr (min (csz a) (csz b)) b).at_ = min (csz a) (csz b) := by rw [ins_csz g1 (by rw [g3]; exact h2), g2]
    omega
/-- Where no step is left both are at their end. -/
theorem cstep_end {l r : List Cm} (hl : Vl l) (hr : Vl r) (e : outs (at_ l) = ins (at_ r)) (h1 : ∀ d m, l = d :: m → d.k ≠ 3) (h2 : ∀ d m, r = d :: m → d.k ≠ 2) (h : l = [] ∨ r = []) : l = [] ∧ r = [] := by
  rcases h with rfl | rfl
  · refine ⟨rfl, ?_⟩
    cases r with
    | nil => rfl
    | cons d m =>
      have := h2 d m rfl
      rcases Cm.cases hr.head with ⟨n, hn, rfl⟩ | ⟨s, hs, rfl⟩ | ⟨n, hn, rfl⟩
      · simp [outs] at e; omega
      · exact absurd rfl this
      · simp [outs] at e; omega
  · refine ⟨?_, rfl⟩
    cases l with
    | nil => rfl
    | cons d m =>
      have := h1 d m rfl
      rcases Cm.cases hl.head with ⟨n, hn, rfl⟩ | ⟨s, hs, rfl⟩ | ⟨n, hn, rfl⟩
      · simp [ins] at e; omega
      · simp [ins] at e; exact absurd e.1 hs
      · exact absurd rfl this

/-! ### Side by side, a piece at a time -/
theorem pair_pl (s : List UInt8) (a b : List A) : pairA (puts s ++ a) b = (puts s ++ (pairA a b).1, keeps s.length ++ (pairA a b).2) := by
  induction s with
  | nil => simp [puts, keeps]
  | cons x s ih => simp only [puts, keeps, List.map_cons, List.length_cons, List.replicate_succ, List.cons_append] at ih ⊢; rw [pairA_PL, ih]
theorem pair_pr (s : List UInt8) (a b : List A) (h : ∀ a' x, a ≠ P x :: a') : pairA a (puts s ++ b) = (keeps s.length ++ (pairA a b).1, puts s ++ (pairA a b).2) := by
  induction s with
  | nil => simp [puts, keeps]
  | cons x s ih => simp only [puts, keeps, List.map_cons, List.length_cons, List.replicate_succ, List.cons_append] at ih ⊢; rw [pairA_PR _ _ _ h, ih]
theorem pair_kk (n : Nat) (a b : List A) : pairA (keeps n ++ a) (keeps n ++ b) = (keeps n ++ (pairA a b).1, keeps n ++ (pairA a b).2) := by
  induction n with
  | zero => simp [keeps]
  | succ n ih => simp only [keeps, List.replicate_succ, List.cons_append] at ih ⊢; simp only [pairA]; rw [ih]
theorem pair_ck (n : Nat) (a b : List A) : pairA (cuts n ++ a) (keeps n ++ b) = (cuts n ++ (pairA a b).1, (pairA a b).2) := by
  induction n with
  | zero => simp [keeps, cuts]
  | succ n ih => simp only [keeps, cuts, List.replicate_succ, List.cons_append] at ih ⊢; simp only [pairA]; rw [ih]
theorem pair_kc (n : Nat) (a b : List A) : pairA (keeps n ++ a) (cuts n ++ b) = ((pairA a b).1, cuts n ++ (pairA a b).2) := by
  induction n with
  | zero => simp [keeps, cuts]
  | succ n ih => simp only [keeps, cuts, List.replicate_succ, List.cons_append] at ih ⊢; simp only [pairA]; rw [ih]
theorem pair_cc (n : Nat) (a b : List A) : pairA (cuts n ++ a) (cuts n ++ b) = pairA a b := by
  induction n with
  | zero => simp [cuts]
  | succ n ih => simp only [cuts, List.replicate_succ, List.cons_append] at ih ⊢; simp only [pairA]; rw [ih]
def pairX (a b : Cm) : List Cm := if b.k = 1 then [a] else []
def pairY (a b : Cm) : List Cm := if a.k = 1 then [b] else []
theorem pair_both {a b : Cm} (ha : a.ok) (hb : b.ok) (h : csz a = csz b) (h1 : a.k ≠ 2) (h2 : b.k ≠ 2) (x y : List A) : pairA (a.at_ ++ x) (b.at_ ++ y) = (at_ (pairX a b) ++ (pairA x y).1, at_ (pairY a b) ++ (pairA x y).2) := by
  rcases Cm.cases ha with ⟨n, hn, rfl⟩ | ⟨s, hs, rfl⟩ | ⟨n, hn, rfl⟩
  · rcases Cm.cases hb with ⟨m, hm, rfl⟩ | ⟨t, ht, rfl⟩ | ⟨m, hm, rfl⟩
    · simp [csz] at h; subst h; simp [pairX, pairY, pair_kk]
    · exact absurd rfl h2
    · simp [csz] at h; subst h; simp [pairX, pairY, pair_kc]
  · exact absurd rfl h1
  · rcases Cm.cases hb with ⟨m, hm, rfl⟩ | ⟨t, ht, rfl⟩ | ⟨m, hm, rfl⟩
    · simp [csz] at h; subst h; simp [pairX, pairY, pair_ck]
    · exact absurd rfl h2
    · simp [csz] at h; subst h; simp [pairX, pairY, pair_cc]
/-- One step of what leads two over one another. -/
inductive PStep : List Cm → List Cm → List Cm → List Cm → List Cm → List Cm → Prop where
  | left (c : Cm) (l r : List Cm) (h : c.k = 2) : PStep (c :: l) r [c] [⟨1, csz c, []⟩] l r
  | right (l : List Cm) (c : Cm) (r : List Cm) (h : c.k = 2) (hl : ∀ d m, l = d :: m → d.k ≠ 2) : PStep l (c :: r) [⟨1, csz c, []⟩] [c] l r
  | both (a : Cm) (l : List Cm) (b : Cm) (r : List Cm) (h1 : a.k ≠ 2) (h2 : b.k ≠ 2) : PStep (a :: l) (b :: r) (pairX (fr (min (csz a) (csz b)) a) (fr (min (csz a) (csz b)) b)) (pairY (fr (min (csz a) (csz b)) a) (fr (min (csz a) (csz b)) b)) (bks (min (csz a) (csz b)) a l) (bks (min (csz a) (csz b)) b r)
theorem PStep.vl {l r x y l' r' : List Cm} (h : PStep l r x y l' r') (hl : Vl l) (hr : Vl r) : Vl x ∧ Vl y ∧ Vl l' ∧ Vl r' := by
  cases h with
  | left c _ _ hk => exact ⟨Vl.cons hl.head Vl.nil, Vl.cons (keep_ok (csz_pos hl.head)) Vl.nil, hl.tail, hr⟩
  | right _ c _ hk _ => exact ⟨Vl.cons (keep_ok (csz_pos hr.head)) Vl.nil, Vl.cons hr.head Vl.nil, hl, hr.tail⟩
  | both a l b r h1 h2 =>
    have p1 := csz_pos hl.head
    have p2 := csz_pos hr.head
    refine ⟨?_, ?_, bks_vl hl _, bks_vl hr _⟩
    · unfold pairX; split; exact Vl.cons (fr_ok hl.head (by omega) (by omega)).1 Vl.nil; exact Vl.nil
    · unfold pairY; split; exact Vl.cons (fr_ok hr.head (by omega) (by omega)).1 Vl.nil; exact Vl.nil
theorem PStep.pair {l r x y l' r' : List Cm} (h : PStep l r x y l' r') (hl : Vl l) (hr : Vl r) : pairA (at_ l) (at_ r) = (at_ x ++ (pairA (at_ l') (at_ r')).1, at_ y ++ (pairA (at_ l') (at_ r')).2) := by
  cases h with
  | left c _ _ hk =>
    rcases Cm.cases hl.head with ⟨n, hn, rfl⟩ | ⟨s, hs, rfl⟩ | ⟨n, hn, rfl⟩
    · cases hk
    · simp [pair_pl, csz]
    · cases hk
  | right l c r hk hh =>
    rcases Cm.cases hr.head with ⟨n, hn, rfl⟩ | ⟨s, hs, rfl⟩ | ⟨n, hn, rfl⟩
    · cases hk
    · rw [at_cons, at_put, pair_pr]
      · simp [csz]
      · intro a' x
        cases l with
        | nil => simp
        | cons d m => rw [at_cons]; exact no_put hl.head (hh d m rfl) _ _ _
    · cases hk
  | both a l b r h1 h2 =>
    have p1 := csz_pos hl.head
    have p2 := csz_pos hr.head
    obtain ⟨f1, f2, f3⟩ := fr_ok hl.head (m := min (csz a) (csz b)) (by omega) (by omega)
    obtain ⟨g1, g2, g3⟩ := fr_ok hr.head (m := min (csz a) (csz b)) (by omega) (by omega)
    rw [← fr_bks hl.head (m := min (csz a) (csz b)) (by omega), ← fr_bks hr.head (m := min (csz a) (csz b)) (by omega)]
    exact pair_both f1 g1 (by rw [f2, g2]) (by rw [f3]; exact h1) (by rw [g3]; exact h2) _ _
theorem PStep.less {l r x y l' r' : List Cm} (h : PStep l r x y l' r') (hl : Vl l) (hr : Vl r) : (at_ l').length + (at_ r').length < (at_ l).length + (at_ r).length := by
  cases h with
  | left c _ _ hk => have := csz_at hl.head; have := csz_pos hl.head; simp; omega
  | right _ c _ hk _ => have := csz_at hr.head; have := csz_pos hr.head; simp; omega
  | both a l b r h1 h2 =>
    have p1 := csz_pos hl.head
    have p2 := csz_pos hr.head
    obtain ⟨f1, f2, f3⟩ := fr_ok hl.head (m := min (csz a) (csz b)) (by omega) (by omega)
    obtain ⟨g1, g2, g3⟩ := fr_ok hr.head (m := min (csz a) (csz b)) (by omega) (by omega)
    rw [← fr_bks hl.head (m := min (csz a) (csz b)) (by omega), ← fr_bks hr.head (m := min (csz a) (csz b)) (by omega)]
    rw [List.length_append, List.length_append, csz_at f1, csz_at g1]; omega
theorem PStep.len {l r x y l' r' : List Cm} (h : PStep l r x y l' r') : x.length ≤ 1 ∧ y.length ≤ 1 := by
  cases h with
  | left c _ _ hk => simp
  | right _ c _ hk _ => simp
  | both a l b r h1 h2 => unfold pairX pairY; constructor <;> split <;> simp
theorem PStep.fits {l r x y l' r' : List Cm} (h : PStep l r x y l' r') (hl : Vl l) (hr : Vl r) (e : ins (at_ l) = ins (at_ r)) : ins (at_ l') = ins (at_ r') := by
  cases h with
  | left c _ _ hk =>
    rcases Cm.cases hl.head with ⟨n, hn, rfl⟩ | ⟨s, hs, rfl⟩ | ⟨n, hn, rfl⟩
    · cases hk
    · simpa using e
    · cases hk
  | right l c r hk hh =>
    rcases Cm.cases hr.head with ⟨n, hn, rfl⟩ | ⟨s, hs, rfl⟩ | ⟨n, hn, rfl⟩
    · cases hk
    · simpa using e
    · cases hk
  | both a l b r h1 h2 =>
    have p1 := csz_pos hl.head
    have p2 := csz_pos hr.head
    obtain ⟨f1, f2, f3⟩ := fr_ok hl.head (m := min (csz a) (csz b)) (by omega) (by omega)
    obtain ⟨g1, g2, g3⟩ := fr_ok hr.head (m := min (csz a) (csz b)) (by omega) (by omega)
    rw [← fr_bks hl.head (m := min (csz a) (csz b)) (by omega), ← fr_bks hr.head (m := min (csz a) (csz b)) (by omega), ins_append, ins_append] at e
    have o1 : ins (fr (min (csz a) (csz b)) a).at_ = min (csz a) (csz b) := by rw [ins_csz f1 (by rw [f3]; exact h1), f2]
    have o2 : ins (fr (min (csz a) (csz b)) b).at_ = min (csz a) (csz b) := by rw [ins_csz g1 (by rw [g3]; exact h2), g2]
    omega
theorem pstep_end {l r : List Cm} (hl : Vl l) (hr : Vl r) (e : ins (at_ l) = ins (at_ r)) (h1 : ∀ d m, l = d :: m → d.k ≠ 2) (h2 : ∀ d m, r = d :: m → d.k ≠ 2) (h : l = [] ∨ r = []) : l = [] ∧ r = [] := by
  have one : ∀ l : List Cm, Vl l → (∀ d m, l = d :: m → d.k ≠ 2) → ins (at_ l) = 0 → l = [] := by
    intro l hl h e
    cases l with
    | nil => rfl
    | cons d m =>
      have := h d m rfl
      rcases Cm.cases hl.head with ⟨n, hn, rfl⟩ | ⟨s, hs, rfl⟩ | ⟨n, hn, rfl⟩
      · simp at e; omega
      · exact absurd rfl this
      · simp at e; omega
  rcases h with rfl | rfl
  · exact ⟨rfl, one _ hr h2 (by simpa [ins] using e.symm)⟩
  · exact ⟨one _ hl h1 (by simpa [ins] using e), rfl⟩

/-- An operation turned about, part by part. -/
def invOne (c : Cm) (d : List UInt8) : Cm := if c.k = 2 then ⟨3, c.s.length, []⟩ else if c.k = 3 then ⟨2, 0, d.take c.n.toNat⟩ else c
def invC : List Cm → List UInt8 → List Cm
  | [], _ => []
  | c :: l, d => invOne c d :: invC l (d.drop (ins c.at_))
theorem invC_snoc (l : List Cm) (c : Cm) : ∀ d, invC (l ++ [c]) d = invC l d ++ [invOne c (d.drop (inC l))] := by
  induction l with
  | nil => intro d; simp [invC, inC, ins]
  | cons x l ih => intro d; simp only [List.cons_append, invC, ih, inC, at_cons, ins_append, List.drop_drop]
theorem invC_at (l : List Cm) (h : Vl l) : ∀ d, inC l ≤ d.length → at_ (invC l d) = inv (at_ l) d ∧ Vl (invC l d) := by
  induction l with
  | nil => intro d _; exact ⟨rfl, Vl.nil⟩
  | cons c l ih =>
    intro d hd
    have hd' : ins c.at_ + inC l ≤ d.length := by simpa [inC] using hd
    obtain ⟨h1, h2⟩ := ih h.tail (d.drop (ins c.at_)) (by rw [List.length_drop]; omega)
    rw [at_cons, inv_append, ← h1]
    simp only [invC, at_cons]
    rcases Cm.cases h.head with ⟨n, hn, rfl⟩ | ⟨s, hs, rfl⟩ | ⟨n, hn, rfl⟩
    · simp only [at_keep, ins_keeps] at hd' ⊢
      refine ⟨by rw [inv_keeps]; simp [invOne], Vl.cons (by simp only [invOne]; exact keep_ok hn) (by simpa using h2)⟩
    · simp only [at_put, ins_puts] at hd' ⊢
      refine ⟨by rw [inv_puts]; simp [invOne], Vl.cons (by simp only [invOne]; exact cut_ok (List.length_pos_iff.2 hs)) (by simpa using h2)⟩
    · simp only [at_cut, ins_cuts] at hd' ⊢
      refine ⟨by rw [inv_cuts]; simp [invOne], Vl.cons (by simp only [invOne]; refine put_ok ?_; intro e; have := congrArg List.length e; simp only [List.length_take, List.length_nil, Int.toNat_natCast] at this; omega) (by simpa using h2)⟩
theorem invC_len (l : List Cm) : ∀ d, (invC l d).length = l.length := by
  induction l with
  | nil => intro d; rfl
  | cons c l ih => intro d; simp [invC, ih]
end Go.OpM

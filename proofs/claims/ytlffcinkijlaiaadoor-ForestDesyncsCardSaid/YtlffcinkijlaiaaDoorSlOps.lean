/- The rules of the walk: what each operation does to the slots that are known and to the memory that is held. -/
import Derived.Test.YtlffcinkijlaiaaDoorSl
import Derived.Orders
namespace Go.Proofs.Sl
open Go

/-! ### Slots -/
abbrev Env := List (Nat × Value)
def Env.get : Env → Nat → Option Value
  | [], _ => none
  | (k, v) :: E, t => match Nat.beq k t with
    | true => some v
    | false => Env.get E t
def Env.ev (E : Env) : Operand → Option Value
  | .tmp t => Env.get E t
  | .const v => some v
  | .global g => some (.pointer (some ⟨g, 0, none⟩))
  | .func f => some (.func (.func f) #[] #[])
/-- The call's slots are as the list says. -/
structure Agr (n : Nat) (E : Env) (a : Act) : Prop where
  size : a.tmps.size = n
  defers : a.defers = []
  get : ∀ t v, Env.get E t = some v → a.tmps[t]? = some v
theorem Agr.ev {n : Nat} {E : Env} {a : Act} (h : Agr n E a) {x : Operand} {v : Value} (e : Env.ev E x = some v) : a.eval x = v := by
  cases x with
  | tmp t => have := h.get t v e; simp [Act.eval, Array.getD_eq_getD_getElem?, this]
  | const u => exact Option.some.inj e
  | global g => exact Option.some.inj e
  | func f => exact Option.some.inj e
theorem beq_no {t k : Nat} (h : ¬ t = k) : Nat.beq t k = false := by
  cases hb : Nat.beq t k with
  | true => exact absurd (Nat.eq_of_beq_eq_true hb) h
  | false => rfl
theorem ne_of_beq {t k : Nat} (h : Nat.beq t k = false) : ¬ t = k := Nat.ne_of_beq_eq_false h
theorem Agr.put {n : Nat} {E : Env} {a : Act} (h : Agr n E a) {t : Nat} (ht : Nat.blt t n = true) (v : Value) : Agr n ((t, v) :: E) (a.put (some t) v) := by
  have ht' : t < n := by simpa using ht
  refine ⟨by simp [Act.put, h.size], by simp [Act.put, h.defers], fun k u e => ?_⟩
  simp only [Env.get] at e
  by_cases hk : t = k
  · subst hk
    simp at e
    subst e
    simp [Act.put, h.size, ht']
  · have : Nat.beq t k = false := beq_no hk
    rw [this] at e
    simp only [] at e
    rw [Act.put]
    simp only [Array.getElem?_setIfInBounds, if_neg hk]
    exact h.get k u e
theorem Agr.sub {n : Nat} {E E' : Env} {a : Act} (h : Agr n E a) (hs : ∀ t v, Env.get E' t = some v → Env.get E t = some v) : Agr n E' a :=
  ⟨h.size, h.defers, fun t v e => h.get t v (hs t v e)⟩
/-- E' keeps slots of E. -/
def Env.keeps (E : Env) : Env → Prop
  | [] => True
  | (t, v) :: E' => Env.get E t = some v ∧ Env.keeps E E'
theorem Env.keeps_get {E : Env} : ∀ {E' : Env}, Env.keeps E E' → ∀ t v, Env.get E' t = some v → Env.get E t = some v
  | [], _, t, v, e => by simp [Env.get] at e
  | (k, u) :: E', h, t, v, e => by
    simp only [Env.get] at e
    by_cases hk : k = t
    · subst hk; simp at e; subst e; exact h.1
    · have : Nat.beq k t = false := beq_no hk
      rw [this] at e
      exact Env.keeps_get h.2 t v e

/-! ### What is to be shown -/
section
variable (P : Program) (n : Nat) (Q : Exit → Act → World → Prop) (E : Env) (L : List HP)
/-- A piece of code, from a state of which so much is known. -/
def Wc (c : Code) : Prop := ∀ a w, Agr n E a → Sat w L → c.wp P Q a w
/-- A region's rest. -/
def Wl (ops : Array Oper) (l : List Oper) : Prop := ∀ a w, Agr n E a → Sat w L → wpList P ops Q l a w
/-- What is known where a piece of code is left. -/
def At (K : Act → World → Prop) : Prop := ∀ a w, Agr n E a → Sat w L → K a w
/-- An operation that only computes or reads. -/
def Runs (o : Oper) (v : Value) : Prop := ∀ a w, Agr n E a → Sat w L → (execOp a.eval o).run P w = .ok (.value v) w
/-- An operation that turns memory; x: what is not known ahead. -/
def RunsX {α : Type} (o : Oper) (v : α → Value) (L' : α → List HP) : Prop :=
  ∀ a w, Agr n E a → Sat w L → ∃ x w', (execOp a.eval o).run P w = .ok (.value (v x)) w' ∧ Sat w' (L' x)
def Acts (o : Oper) (L' : List HP) : Prop := ∀ a w, Agr n E a → Sat w L → ∃ w', (execOp a.eval o).run P w = .ok .skip w' ∧ Sat w' L'
end

section
variable {P : Program} {n : Nat} {Q : Exit → Act → World → Prop} {E : Env} {L : List HP} {ops : Array Oper} {rest : List Oper}

/-! ### Code -/
theorem Wc.seq {x y : Code} (h : Wc P n (Exit.then (fun a w => y.wp P Q a w) Q) E L x) : Wc P n Q E L (.seq x y) := fun a w hA hS => wp_seq (h a w hA hS)
theorem Wc.region {id : Nat} {l : List Oper} (h : Wl P n Q E L l.toArray l) : Wc P n Q E L (.region id l.toArray false) :=
  fun a w hA hS => wp_region_lit (h a w hA hS)
theorem Wc.skip (h : At n E L (Q .normal)) : Wc P n Q E L .skip := fun a w hA hS => wp_skip (h a w hA hS)
theorem Wc.ret (h : At n E L (Q .ret)) : Wc P n Q E L .ret := fun a w hA hS => wp_ret (h a w hA hS)
theorem Wc.exit {id : Nat} (h : At n E L (Q (.exit id))) : Wc P n Q E L (.exit id) := fun a w hA hS => wp_exit (h a w hA hS)
theorem Wc.block {id : Nat} {c : Code} (h : Wc P n (Exit.inBlock id Q) E L c) : Wc P n Q E L (.block id c) := fun a w hA hS => wp_block (h a w hA hS)
theorem Wc.ifb {c : Operand} {x y : Code} {t : Bool} (hc : Env.ev E c = some (.bool t)) (ht : t = true → Wc P n Q E L x) (hf : t = false → Wc P n Q E L y) :
    Wc P n Q E L (.cond c x y) := fun a w hA hS => wp_cond_split (hA.ev hc) (fun h => ht h a w hA hS) (fun h => hf h a w hA hS)
theorem Wc.ifd {c : Operand} {x y : Code} {p : Prop} [Decidable p] (hc : Env.ev E c = some (.bool (decide p))) (ht : p → Wc P n Q E L x) (hf : ¬ p → Wc P n Q E L y) :
    Wc P n Q E L (.cond c x y) := Wc.ifb hc (fun h => ht (of_decide_eq_true h)) (fun h => hf (of_decide_eq_false h))
theorem Wc.ift {c : Operand} {x y : Code} (hc : Env.ev E c = some (.bool true)) (h : Wc P n Q E L x) : Wc P n Q E L (.cond c x y) := Wc.ifb hc (fun _ => h) (fun h => nomatch h)
theorem Wc.iff_ {c : Operand} {x y : Code} (hc : Env.ev E c = some (.bool false)) (h : Wc P n Q E L y) : Wc P n Q E L (.cond c x y) := Wc.ifb hc (fun h => nomatch h) (fun _ => h)
theorem Wc.env (E' : Env) (hk : Env.keeps E E') {c : Code} (h : Wc P n Q E' L c) : Wc P n Q E L c := fun a w hA hS => h a w (hA.sub (Env.keeps_get hk)) hS
theorem Wc.mem {L' : List HP} {c : Code} (hm : ∀ w, Sat w L → Sat w L') (h : Wc P n Q E L' c) : Wc P n Q E L c := fun a w hA hS => h a w hA (hm w hS)
theorem Wc.memEx {α : Sort _} {L' : α → List HP} {c : Code} (hm : ∀ w, Sat w L → ∃ x, Sat w (L' x)) (h : ∀ x, Wc P n Q E (L' x) c) : Wc P n Q E L c := fun a w hA hS =>
  let ⟨x, hx⟩ := hm w hS; h x a w hA hx
theorem Wc.know {p : Prop} {c : Code} (hm : ∀ w, Sat w L → p) (h : p → Wc P n Q E L c) : Wc P n Q E L c := fun a w hA hS => h (hm w hS) a w hA hS
theorem At.then_ {y : Code} (h : Wc P n Q E L y) : At n E L (Exit.then (fun a w => y.wp P Q a w) Q .normal) := h
theorem At.thenRet {K : Act → World → Prop} (h : At n E L (Q .ret)) : At n E L (Exit.then K Q .ret) := h
theorem At.thenExit {K : Act → World → Prop} {id : Nat} (h : At n E L (Q (.exit id))) : At n E L (Exit.then K Q (.exit id)) := h
theorem At.blockNormal {id : Nat} (h : At n E L (Q .normal)) : At n E L (Exit.inBlock id Q .normal) := h
theorem At.blockRet {id : Nat} (h : At n E L (Q .ret)) : At n E L (Exit.inBlock id Q .ret) := h
theorem At.blockOut {id : Nat} (h : At n E L (Q .normal)) : At n E L (Exit.inBlock id Q (.exit id)) := fun a w hA hS => by simp only [Exit.inBlock, if_true]; exact h a w hA hS
theorem At.blockOther {id k : Nat} (hk : Nat.beq k id = false) (h : At n E L (Q (.exit k))) : At n E L (Exit.inBlock id Q (.exit k)) := fun a w hA hS => by
  have : ¬ k = id := ne_of_beq hk
  simp only [Exit.inBlock, if_neg this]; exact h a w hA hS
theorem At.mem {L' : List HP} {K : Act → World → Prop} (hm : ∀ w, Sat w L → Sat w L') (h : At n E L' K) : At n E L K := fun a w hA hS => h a w hA (hm w hS)
theorem At.env (E' : Env) (hk : Env.keeps E E') {K : Act → World → Prop} (h : At n E' L K) : At n E L K := fun a w hA hS => h a w (hA.sub (Env.keeps_get hk)) hS
/-- A loop: what holds at each round's head, of x; each round lowers m. -/
theorem Wc.loop {α : Type} (EI : α → Env) (LI : α → List HP) (I : α → Prop) (m : α → Nat) {c : Code} (x0 : α) (hI : I x0) (hk : Env.keeps E (EI x0)) (hm : ∀ w, Sat w L → Sat w (LI x0))
    (h : ∀ x, I x → Wc P n (Exit.then (fun a w => ∃ y, I y ∧ m y < m x ∧ Agr n (EI y) a ∧ Sat w (LI y)) Q) (EI x) (LI x) c) : Wc P n Q E L (.loop c) := by
  intro a w hA hS b k cs
  have key : ∀ j, ∀ x, m x = j → I x → ∀ a w, Agr n (EI x) a → Sat w (LI x) →
      ∃ e a' w', Q e a' w' ∧ Arrives P (lone (b.at a (.code c :: .inLoop c :: k)) cs w) b k cs e a' w' := by
    intro j
    induction j using Nat.strongRecOn with
    | _ j ih =>
      intro x hx hIx a w hA hS
      obtain ⟨e, a₁, w₁, hq, harr⟩ := h x hIx a w hA hS b (.inLoop c :: k) cs
      cases e with
      | normal =>
        obtain ⟨y, hy, hlt, hA', hS'⟩ := hq
        obtain ⟨e₂, a₂, w₂, hq₂, harr₂⟩ := ih (m y) (hx ▸ hlt) y rfl hy a₁ w₁ hA' hS'
        exact ⟨e₂, a₂, w₂, hq₂, .of_steps (Steps.trans harr (.one step_inLoop)) harr₂⟩
      | exit id => exact ⟨_, a₁, w₁, hq, .pass (x := .inLoop c) rfl (fun _ _ => .inl (by simp)) harr⟩
      | goto l => exact ⟨_, a₁, w₁, hq, .pass (x := .inLoop c) rfl (fun _ _ => .inl (by simp)) harr⟩
      | ret => exact ⟨_, a₁, w₁, hq, .pass (x := .inLoop c) rfl (fun _ _ => .inl (by simp)) harr⟩
      | panic ch => exact ⟨_, a₁, w₁, hq, .pass (x := .inLoop c) rfl (fun _ _ => .inl (by simp)) harr⟩
      | outgrown => exact ⟨_, a₁, w₁, hq, .pass (x := .inLoop c) rfl (fun _ _ => .inl (by simp)) harr⟩
  obtain ⟨e, a', w', hq, harr⟩ := key _ x0 rfl hI a w (hA.sub (Env.keeps_get hk)) (hm w hS)
  exact ⟨e, a', w', hq, .of_steps (.one step_loop) harr⟩
end
end Go.Proofs.Sl
namespace Go.Proofs.Sl
open Go
theorem Wc.ifdt {P : Program} {n : Nat} {Q : Exit → Act → World → Prop} {E : Env} {L : List HP} {c : Operand} {x y : Code} {p : Prop} [Decidable p] (hc : Env.ev E c = some (.bool (decide p))) (hp : p) (h : Wc P n Q E L x) :
    Wc P n Q E L (.cond c x y) := Wc.ifd hc (fun _ => h) (fun hn => absurd hp hn)
theorem Wc.ifdf {P : Program} {n : Nat} {Q : Exit → Act → World → Prop} {E : Env} {L : List HP} {c : Operand} {x y : Code} {p : Prop} [Decidable p] (hc : Env.ev E c = some (.bool (decide p))) (hp : ¬ p) (h : Wc P n Q E L y) :
    Wc P n Q E L (.cond c x y) := Wc.ifd hc (fun hn => absurd hn hp) (fun _ => h)
end Go.Proofs.Sl

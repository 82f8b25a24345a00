/- The rules of the walk, operation by operation. -/
import Derived.Test.YtlffcinkijlaiaaDoorSlOps
import Derived.Laws.Sem
namespace Go.Proofs.Sl
open Go

section
variable {P : Program} {n : Nat} {Q : Exit → Act → World → Prop} {E : Env} {L : List HP} {ops : Array Oper} {rest : List Oper}
variable {ty : TypeId} {ps : String} {af : Array Edge} {gd : Option (Nat × Bool)}

/-! ### A region's rest -/
theorem Wl.nil (h : At n E L (Q .normal)) : Wl P n Q E L ops [] := fun a w hA hS => wpList_nil (h a w hA hS)
theorem Wl.val {t : Nat} {op : Op} {v : Value} (h : Runs P n E L ⟨some t, op, ty, ps, af, none⟩ v) (ht : Nat.blt t n = true)
    (k : Wl P n Q ((t, v) :: E) L ops rest) : Wl P n Q E L ops (⟨some t, op, ty, ps, af, none⟩ :: rest) := fun a w hA hS =>
  wpList_plain rfl fun K hK => by
    unfold Oper.wp
    rw [h a w hA hS, Oper.upon_value]
    exact hK _ _ (k _ _ (hA.put ht v) hS)
theorem Wl.val0 {op : Op} {v : Value} (h : Runs P n E L ⟨none, op, ty, ps, af, none⟩ v)
    (k : Wl P n Q E L ops rest) : Wl P n Q E L ops (⟨none, op, ty, ps, af, none⟩ :: rest) := fun a w hA hS =>
  wpList_plain rfl fun K hK => by
    unfold Oper.wp
    rw [h a w hA hS, Oper.upon_value]
    exact hK _ _ (k _ _ hA hS)
theorem Wl.valX {t : Nat} {op : Op} {α : Type} {v : α → Value} {L' : α → List HP} (h : RunsX P n E L ⟨some t, op, ty, ps, af, none⟩ v L') (ht : Nat.blt t n = true)
    (k : ∀ x, Wl P n Q ((t, v x) :: E) (L' x) ops rest) : Wl P n Q E L ops (⟨some t, op, ty, ps, af, none⟩ :: rest) := fun a w hA hS =>
  wpList_plain rfl fun K hK => by
    obtain ⟨x, w', hr, hS'⟩ := h a w hA hS
    unfold Oper.wp
    rw [hr, Oper.upon_value]
    exact hK _ _ (k x _ _ (hA.put ht _) hS')
theorem Wl.valX0 {op : Op} {α : Type} {v : α → Value} {L' : α → List HP} (h : RunsX P n E L ⟨none, op, ty, ps, af, none⟩ v L')
    (k : ∀ x, Wl P n Q E (L' x) ops rest) : Wl P n Q E L ops (⟨none, op, ty, ps, af, none⟩ :: rest) := fun a w hA hS =>
  wpList_plain rfl fun K hK => by
    obtain ⟨x, w', hr, hS'⟩ := h a w hA hS
    unfold Oper.wp
    rw [hr, Oper.upon_value]
    exact hK _ _ (k x _ _ hA hS')
theorem Wl.act {op : Op} {L' : List HP} (h : Acts P n E L ⟨none, op, ty, ps, af, none⟩ L')
    (k : Wl P n Q E L' ops rest) : Wl P n Q E L ops (⟨none, op, ty, ps, af, none⟩ :: rest) := fun a w hA hS =>
  wpList_plain rfl fun K hK => by
    obtain ⟨w', hr, hS'⟩ := h a w hA hS
    unfold Oper.wp
    rw [hr, Oper.upon_skip]
    exact hK _ _ (k _ _ hA hS')
theorem Wl.mem {L' : List HP} (hm : ∀ w, Sat w L → Sat w L') (h : Wl P n Q E L' ops rest) : Wl P n Q E L ops rest := fun a w hA hS => h a w hA (hm w hS)
theorem Wl.memEx.{u} {α : Sort u} {L' : α → List HP} (hm : ∀ w, Sat w L → ∃ x, Sat w (L' x)) (h : ∀ x, Wl P n Q E (L' x) ops rest) : Wl P n Q E L ops rest := fun a w hA hS =>
  let ⟨x, hx⟩ := hm w hS; h x a w hA hx
theorem Wl.know {p : Prop} (hm : ∀ w, Sat w L → p) (h : p → Wl P n Q E L ops rest) : Wl P n Q E L ops rest := fun a w hA hS => h (hm w hS) a w hA hS
theorem Wl.env (E' : Env) (hk : Env.keeps E E') (h : Wl P n Q E' L ops rest) : Wl P n Q E L ops rest := fun a w hA hS => h a w (hA.sub (Env.keeps_get hk)) hS
theorem yielded_of {a : Act} {j d : Nat} {b : Bool} (hA : Agr n E a) (hj : (ops[j]?).bind (·.dst) = some d) (hd : Env.get E d = some (.bool b)) : yielded ops a.tmps j = some b := by
  have := hA.get d _ hd
  simp [yielded, hj, this]
/-- The guard lets it through. -/
theorem Wl.wanted {j d : Nat} {b : Bool} {t : Option Tmp} {op : Op} (hj : (ops[j]?).bind (·.dst) = some d) (hd : Env.get E d = some (.bool b))
    (h : Wl P n Q E L ops (⟨t, op, ty, ps, af, none⟩ :: rest)) : Wl P n Q E L ops (⟨t, op, ty, ps, af, some (j, b)⟩ :: rest) := fun a w hA hS => by
  have h' := h a w hA hS
  have hy := yielded_of hA hj hd
  unfold wpList at h' ⊢
  have hw1 : Region.wanted (⟨t, op, ty, ps, af, some (j, b)⟩ : Oper) (yielded ops a.tmps) = true := by simp [Region.wanted, hy]
  have hw2 : Region.wanted (⟨t, op, ty, ps, af, none⟩ : Oper) (yielded ops a.tmps) = true := by simp [Region.wanted]
  rw [if_pos hw2] at h'
  rw [if_pos hw1]
  exact h'
/-- The guard does not. -/
theorem Wl.unwanted {j d t : Nat} {b c : Bool} {op : Op} (hj : (ops[j]?).bind (·.dst) = some d) (hd : Env.get E d = some (.bool c)) (hbc : (c == b) = false) (ht : Nat.blt t n = true)
    (h : Wl P n Q ((t, undef) :: E) L ops rest) : Wl P n Q E L ops (⟨some t, op, ty, ps, af, some (j, b)⟩ :: rest) := fun a w hA hS => by
  have hy := yielded_of hA hj hd
  unfold wpList
  have hw1 : Region.wanted (⟨some t, op, ty, ps, af, some (j, b)⟩ : Oper) (yielded ops a.tmps) = false := by
    simp only [Region.wanted, hy]; cases b <;> cases c <;> first | rfl | (simp at hbc)
  rw [if_neg (by rw [hw1]; simp)]
  exact h _ _ (hA.put ht undef) hS
/-- A test: both ways. -/
theorem Wl.split (d : Nat) {b : Bool} (hd : Env.get E d = some (.bool b)) (ht : b = true → Wl P n Q ((d, .bool true) :: E) L ops rest) (hf : b = false → Wl P n Q ((d, .bool false) :: E) L ops rest) :
    Wl P n Q E L ops rest := fun a w hA hS => by
  cases hb : b with
  | true =>
    refine ht hb a w (hA.sub fun t v e => ?_) hS
    simp only [Env.get] at e
    by_cases hk : d = t
    · subst hk; simp at e; rw [hd, hb, e]
    · rw [beq_no hk] at e; exact e
  | false =>
    refine hf hb a w (hA.sub fun t v e => ?_) hS
    simp only [Env.get] at e
    by_cases hk : d = t
    · subst hk; simp at e; rw [hd, hb, e]
    · rw [beq_no hk] at e; exact e
theorem Wl.splitd (d : Nat) {p : Prop} [Decidable p] (hd : Env.get E d = some (.bool (decide p))) (ht : p → Wl P n Q ((d, .bool true) :: E) L ops rest) (hf : ¬ p → Wl P n Q ((d, .bool false) :: E) L ops rest) :
    Wl P n Q E L ops rest := Wl.split d hd (fun h => ht (of_decide_eq_true h)) (fun h => hf (of_decide_eq_false h))

/-! ### Operations that only compute -/
theorem Runs.move {d : Option Tmp} {x : Operand} {v : Value} (hx : Env.ev E x = some v) : Runs P n E L ⟨d, .move x, ty, ps, af, gd⟩ v := fun a w hA _ => by simp [execOp, hA.ev hx]
theorem Runs.assign {d : Option Tmp} {x : Operand} {v : Value} (hx : Env.ev E x = some v) : Runs P n E L ⟨d, .assign x, ty, ps, af, gd⟩ v := fun a w hA _ => by simp [execOp, hA.ev hx]
theorem Runs.pickt {d : Option Tmp} {c x y : Operand} {v : Value} (hc : Env.ev E c = some (.bool true)) (hx : Env.ev E x = some v) : Runs P n E L ⟨d, .pick c x y, ty, ps, af, gd⟩ v :=
  fun a w hA _ => by simp [execOp, hA.ev hc, hA.ev hx, asBool]
theorem Runs.pickf {d : Option Tmp} {c x y : Operand} {v : Value} (hc : Env.ev E c = some (.bool false)) (hy : Env.ev E y = some v) : Runs P n E L ⟨d, .pick c x y, ty, ps, af, gd⟩ v :=
  fun a w hA _ => by simp [execOp, hA.ev hc, hA.ev hy, asBool]
theorem Runs.nilCheck {d : Option Tmp} {x : Operand} {p : Addr} (hx : Env.ev E x = some (.pointer (some p))) : Runs P n E L ⟨d, .nilCheck x, ty, ps, af, gd⟩ (.pointer (some p)) :=
  fun a w hA _ => by simp [execOp, hA.ev hx]
theorem Runs.not {d : Option Tmp} {T : TypeId} {x : Operand} {b : Bool} (hx : Env.ev E x = some (.bool b)) : Runs P n E L ⟨d, .unOp .not T x, ty, ps, af, gd⟩ (.bool (!b)) :=
  fun a w hA _ => by simp [execOp, hA.ev hx, Op.unary]
theorem Runs.notd {d : Option Tmp} {T : TypeId} {x : Operand} {p : Prop} [Decidable p] (hx : Env.ev E x = some (.bool (decide p))) : Runs P n E L ⟨d, .unOp .not T x, ty, ps, af, gd⟩ (.bool (decide (¬ p))) := by
  have := Runs.not (P := P) (n := n) (L := L) (d := d) (T := T) (ty := ty) (ps := ps) (af := af) (gd := gd) hx
  have e : (!decide p) = decide (¬ p) := by simp
  rwa [e] at this
theorem wrap_in {x : Int} (h : -9223372036854775808 ≤ x ∧ x ≤ 9223372036854775807) : IntKind.i64.wrap x = x := by
  simp only [IntKind.wrap, IntKind.signed, IntKind.bits, Bool.true_and]
  split <;> rename_i hh <;> simp at hh <;> omega
section arith
variable {d : Option Tmp} {T T' : TypeId} {x y : Operand} {a b : Int}
theorem Runs.add (hx : Env.ev E x = some (.int .i64 a)) (hy : Env.ev E y = some (.int .i64 b)) (h : -9223372036854775808 ≤ a + b ∧ a + b ≤ 9223372036854775807) :
    Runs P n E L ⟨d, .binOp .add T x y T', ty, ps, af, gd⟩ (.int .i64 (a + b)) :=
  fun c w hA _ => by simp [execOp, hA.ev hx, hA.ev hy, eqGuard, binOp, Op.intArith, wrap_in h]
theorem Runs.sub (hx : Env.ev E x = some (.int .i64 a)) (hy : Env.ev E y = some (.int .i64 b)) (h : -9223372036854775808 ≤ a - b ∧ a - b ≤ 9223372036854775807) :
    Runs P n E L ⟨d, .binOp .sub T x y T', ty, ps, af, gd⟩ (.int .i64 (a - b)) :=
  fun c w hA _ => by simp [execOp, hA.ev hx, hA.ev hy, eqGuard, binOp, Op.intArith, wrap_in h]
theorem Runs.mul (hx : Env.ev E x = some (.int .i64 a)) (hy : Env.ev E y = some (.int .i64 b)) (h : -9223372036854775808 ≤ a * b ∧ a * b ≤ 9223372036854775807) :
    Runs P n E L ⟨d, .binOp .mul T x y T', ty, ps, af, gd⟩ (.int .i64 (a * b)) :=
  fun c w hA _ => by simp [execOp, hA.ev hx, hA.ev hy, eqGuard, binOp, Op.intArith, wrap_in h]
theorem Runs.addw (hx : Env.ev E x = some (.int .i64 a)) (hy : Env.ev E y = some (.int .i64 b)) :
    Runs P n E L ⟨d, .binOp .add T x y T', ty, ps, af, gd⟩ (.int .i64 (IntKind.i64.wrap (a + b))) :=
  fun c w hA _ => by simp [execOp, hA.ev hx, hA.ev hy, eqGuard, binOp, Op.intArith]
theorem Runs.rem (hx : Env.ev E x = some (.int .i64 a)) (hy : Env.ev E y = some (.int .i64 b)) (h : b ≠ 0) :
    Runs P n E L ⟨d, .binOp .rem T x y T', ty, ps, af, gd⟩ (.int .i64 (a.tmod b)) :=
  fun c w hA _ => by simp [execOp, hA.ev hx, hA.ev hy, eqGuard, binOp, Op.intDiv, h]
theorem Runs.quo (hx : Env.ev E x = some (.int .i64 a)) (hy : Env.ev E y = some (.int .i64 b)) (h : b ≠ 0) (hr : -9223372036854775808 ≤ a.tdiv b ∧ a.tdiv b ≤ 9223372036854775807) :
    Runs P n E L ⟨d, .binOp .quo T x y T', ty, ps, af, gd⟩ (.int .i64 (a.tdiv b)) :=
  fun c w hA _ => by simp [execOp, hA.ev hx, hA.ev hy, eqGuard, binOp, Op.intDiv, h, wrap_in hr]
theorem Runs.eq (hx : Env.ev E x = some (.int .i64 a)) (hy : Env.ev E y = some (.int .i64 b)) :
    Runs P n E L ⟨d, .binOp .eql T x y T', ty, ps, af, gd⟩ (.bool (decide (a = b))) :=
  fun c w hA _ => by simp [execOp, hA.ev hx, hA.ev hy, eqGuard, binOp, Op.intCmp]; rfl
theorem Runs.ne (hx : Env.ev E x = some (.int .i64 a)) (hy : Env.ev E y = some (.int .i64 b)) :
    Runs P n E L ⟨d, .binOp .neq T x y T', ty, ps, af, gd⟩ (.bool (decide (a ≠ b))) :=
  fun c w hA _ => by
    have e : (a != b) = decide (a ≠ b) := by by_cases h : a = b <;> simp [h]
    simp only [execOp, hA.ev hx, hA.ev hy, eqGuard, binOp, Op.intCmp, e]
    simp
theorem Runs.lt (hx : Env.ev E x = some (.int .i64 a)) (hy : Env.ev E y = some (.int .i64 b)) :
    Runs P n E L ⟨d, .binOp .lss T x y T', ty, ps, af, gd⟩ (.bool (decide (a < b))) :=
  fun c w hA _ => by simp [execOp, hA.ev hx, hA.ev hy, eqGuard, binOp, Op.intCmp]
theorem Runs.le (hx : Env.ev E x = some (.int .i64 a)) (hy : Env.ev E y = some (.int .i64 b)) :
    Runs P n E L ⟨d, .binOp .leq T x y T', ty, ps, af, gd⟩ (.bool (decide (a ≤ b))) :=
  fun c w hA _ => by simp [execOp, hA.ev hx, hA.ev hy, eqGuard, binOp, Op.intCmp]
theorem Runs.gt (hx : Env.ev E x = some (.int .i64 a)) (hy : Env.ev E y = some (.int .i64 b)) :
    Runs P n E L ⟨d, .binOp .gtr T x y T', ty, ps, af, gd⟩ (.bool (decide (b < a))) :=
  fun c w hA _ => by simp [execOp, hA.ev hx, hA.ev hy, eqGuard, binOp, Op.intCmp]
theorem Runs.ge (hx : Env.ev E x = some (.int .i64 a)) (hy : Env.ev E y = some (.int .i64 b)) :
    Runs P n E L ⟨d, .binOp .geq T x y T', ty, ps, af, gd⟩ (.bool (decide (b ≤ a))) :=
  fun c w hA _ => by simp [execOp, hA.ev hx, hA.ev hy, eqGuard, binOp, Op.intCmp]
end arith
/-- An operation of one operand by a fact of its own. -/
theorem Runs.by1 {o : Oper} {x : Operand} {u v : Value} {f : Value → Sem Next} (ho : ∀ ρ, execOp ρ o = f (ρ x)) (hx : Env.ev E x = some u) (h : ∀ w, (f u).run P w = .ok (.value v) w) :
    Runs P n E L o v := fun a w hA _ => by rw [ho, hA.ev hx]; exact h w
theorem Runs.by2 {o : Oper} {x y : Operand} {u u' v : Value} {f : Value → Value → Sem Next} (ho : ∀ ρ, execOp ρ o = f (ρ x) (ρ y)) (hx : Env.ev E x = some u) (hy : Env.ev E y = some u')
    (h : ∀ w, (f u u').run P w = .ok (.value v) w) : Runs P n E L o v := fun a w hA _ => by rw [ho, hA.ev hx, hA.ev hy]; exact h w
/-- A field's place: off by the field's offset. -/
theorem Runs.field {d : Option Tmp} {s f : Nat} {x : Operand} {b o k : Nat} (hx : Env.ev E x = some (.pointer (some ⟨b, o, none⟩)))
    (h : ∀ b o w, (Instr.fieldAt s (.pointer (some ⟨b, o, none⟩)) f).run P w = .ok (.pointer (some ⟨b, o + k, none⟩)) w) :
    Runs P n E L ⟨d, .fieldAddr s x f, ty, ps, af, gd⟩ (.pointer (some ⟨b, o + k, none⟩)) := fun a w hA _ => by simp [execOp, hA.ev hx, h b o w]
theorem Runs.extract {d : Option Tmp} {x : Operand} {i : Nat} {vs : Array Value} {v : Value} (hx : Env.ev E x = some (.tuple vs)) (h : vs[i]? = some v) :
    Runs P n E L ⟨d, .extract x i, ty, ps, af, gd⟩ v := fun a w hA _ => by simp [execOp, hA.ev hx, Instr.extract, h]
def Env.evs (E : Env) : List Operand → Option (List Value)
  | [] => some []
  | x :: xs => match Env.ev E x, Env.evs E xs with
    | some v, some vs => some (v :: vs)
    | _, _ => none
theorem Agr.evs {a : Act} (h : Agr n E a) : ∀ {xs : List Operand} {vs : List Value}, Env.evs E xs = some vs → xs.map a.eval = vs
  | [], vs, e => by simp [Env.evs] at e; simp [e]
  | x :: xs, vs, e => by
    simp only [Env.evs] at e
    cases h1 : Env.ev E x with
    | none => simp [h1] at e
    | some v =>
      cases h2 : Env.evs E xs with
      | none => simp [h1, h2] at e
      | some us => simp [h1, h2] at e; subst e; simp [h.ev h1, h.evs h2]
def Env.evp (E : Env) : List (Nat × Operand) → Option (List (Nat × Value))
  | [] => some []
  | (i, x) :: xs => match Env.ev E x, Env.evp E xs with
    | some v, some vs => some ((i, v) :: vs)
    | _, _ => none
theorem Agr.evp {a : Act} (h : Agr n E a) : ∀ {xs : List (Nat × Operand)} {vs : List (Nat × Value)}, Env.evp E xs = some vs → (xs.map fun (i, x) => (i, a.eval x)) = vs
  | [], vs, e => by simp [Env.evp] at e; simp [e]
  | (i, x) :: xs, vs, e => by
    simp only [Env.evp] at e
    cases h1 : Env.ev E x with
    | none => simp [h1] at e
    | some v =>
      cases h2 : Env.evp E xs with
      | none => simp [h1, h2] at e
      | some us => simp [h1, h2] at e; subst e; simp [h.ev h1, h.evp h2]
theorem Runs.build {d : Option Tmp} {T : TypeId} {parts : List (Nat × Operand)} {vs : List (Nat × Value)} {v : Value} (hp : Env.evp E parts = some vs)
    (h : ∀ w, (Instr.build T vs.toArray).run P w = .ok v w) : Runs P n E L ⟨d, .build T parts.toArray, ty, ps, af, gd⟩ v := fun a w hA _ => by
  have := hA.evp hp
  simp [execOp, this, h w]
theorem Runs.makeFunc {d : Option Tmp} {fn : Fn} {cap : List Operand} {vs : List Value} (hp : Env.evs E cap = some vs) :
    Runs P n E L ⟨d, .makeFunc fn #[] cap.toArray, ty, ps, af, gd⟩ (.func fn #[] vs.toArray) := fun a w hA _ => by
  have := hA.evs hp
  simp [execOp, Instr.makeFunc, this]
/-! ### Memory that is read -/
/-- The state tells that block b is o. -/
def Has (L : List HP) (b : Nat) (o : Obj) : Prop := ∀ w, Sat w L → w.heap[b]? = some o
/-- A row of variables. -/
def cel (b : Nat) (T : TypeId) (cs : List Value) : HP := blk b (.cells cs.toArray T (0, 0))
theorem perm_nth {α : Type} {A : α} : ∀ (L : List α) (k : Nat), L[k]? = some A → (A :: L.eraseIdx k).Perm L
  | [], k, h => by simp at h
  | B :: L, 0, h => by simp at h; subst h; exact .refl _
  | B :: L, k + 1, h => by
    simp only [List.eraseIdx_cons_succ]
    exact (List.Perm.swap _ _ _).trans ((perm_nth L k (by simpa using h)).cons B)
theorem Sat.nth {w : World} {A : HP} (k : Nat) (h : L[k]? = some A) (s : Sat w L) : Sat w (A :: L.eraseIdx k) := s.perm (perm_nth L k h).symm
theorem Has.blk (k : Nat) {b : Nat} {o : Obj} (h : L[k]? = some (blk b o)) : Has L b o := fun _ s => (s.nth k h).get
theorem Has.cel (k : Nat) {b : Nat} {T : TypeId} {cs : List Value} (h : L[k]? = some (cel b T cs)) : Has L b (.cells cs.toArray T (0, 0)) := Has.blk k h
theorem Has.old (k : Nat) {w0 : World} {b : Nat} {o : Obj} (h : L[k]? = some (Old w0)) (h0 : w0.heap[b]? = some o) : Has L b o := fun _ s => (s.nth k h).old h0
theorem Has.here {b : Nat} {T : TypeId} {cs : List Value} {L : List HP} : Has (Sl.cel b T cs :: L) b (.cells cs.toArray T (0, 0)) := fun _ s => s.get
theorem Has.hereBlk {b : Nat} {o : Obj} {L : List HP} : Has (Sl.blk b o :: L) b o := fun _ s => s.get
theorem Has.there {A : HP} {b : Nat} {o : Obj} {L : List HP} (h : Has L b o) : Has (A :: L) b o := fun w s => h w s.drop
theorem Has.old0 {w0 : World} {b : Nat} {o : Obj} {L : List HP} (h0 : w0.heap[b]? = some o) : Has (Old w0 :: L) b o := fun _ s => s.old h0
/-- L' is L, with block b turned from o to o'. -/
inductive UpdL : List HP → Nat → Obj → Obj → List HP → Prop where
  | here {b : Nat} {o o' : Obj} {L : List HP} : UpdL (Sl.blk b o :: L) b o o' (Sl.blk b o' :: L)
  | there {A : HP} {b : Nat} {o o' : Obj} {L L' : List HP} (h : UpdL L b o o' L') : UpdL (A :: L) b o o' (A :: L')
theorem UpdL.cel {b : Nat} {T : TypeId} {cs cs' : List Value} {L : List HP} : UpdL (Sl.cel b T cs :: L) b (.cells cs.toArray T (0, 0)) (.cells cs'.toArray T (0, 0)) (Sl.cel b T cs' :: L) := .here
theorem UpdL.perm {L L' : List HP} {b : Nat} {o o' : Obj} (h : UpdL L b o o' L') : ∃ M, L.Perm (Sl.blk b o :: M) ∧ L'.Perm (Sl.blk b o' :: M) := by
  induction h with
  | here => exact ⟨_, .refl _, .refl _⟩
  | there _ ih => obtain ⟨M, h1, h2⟩ := ih; exact ⟨_ :: M, (h1.cons _).trans (.swap _ _ _), (h2.cons _).trans (.swap _ _ _)⟩
theorem UpdL.has {L L' : List HP} {b : Nat} {o o' : Obj} (h : UpdL L b o o' L') : Has L b o := fun _ s => let ⟨_, h1, _⟩ := h.perm; (s.perm h1).get
theorem UpdL.sat {L L' : List HP} {b : Nat} {o o' : Obj} (h : UpdL L b o o' L') {w w' : World} (s : Sat w L) (g : sigOf w' = sigOf w) (hb : w'.heap[b]? = some o')
    (e : ∀ (c : Nat) (x : Obj), c ≠ b → w.heap[c]? = some x → w'.heap[c]? = some x) : Sat w' L' :=
  let ⟨_, h1, h2⟩ := h.perm; ((s.perm h1).put g hb e).perm h2.symm
/-- A type of one cell. -/
def Flat (P : Program) (T : TypeId) : Prop := ∀ w, (isAgg T).run P w = .ok false w
/-- A type of k cells, taken and laid as a whole. -/
def Agg (P : Program) (T : TypeId) (k : Nat) : Prop := (∀ w, (isAgg T).run P w = .ok true w) ∧ ∀ w, (sizeOf T).run P w = .ok k w
theorem cell_at {w : World} {b off : Nat} {cs : Array Value} {T : TypeId} {fr : Nat × Nat} {v : Value} (h : w.heap[b]? = some (.cells cs T fr)) (hc : cs[off]? = some v) :
    w.cell? ⟨b, off, none⟩ = some v := by simp [World.cell?, h, hc]
theorem Runs.load1 {d : Option Tmp} {T : TypeId} {x : Operand} {b off : Nat} {cs : List Value} {U : TypeId} {fr : Nat × Nat} {v : Value} (hx : Env.ev E x = some (.pointer (some ⟨b, off, none⟩)))
    (hT : Flat P T) (hm : Has L b (.cells cs.toArray U fr)) (hc : cs[off]? = some v) : Runs P n E L ⟨d, .load T x, ty, ps, af, gd⟩ v := fun a w hA hS => by
  have h1 := cell_at (hm w hS) (show cs.toArray[off]? = some v by simpa using hc)
  simp [execOp, hA.ev hx, Instr.loadAt, Instr.sureAddr, loadVar, hT w, h1]
theorem addr_add (b off i : Nat) : Addr.add ⟨b, off, none⟩ i = ⟨b, off + i, none⟩ := by
  unfold Addr.add
  split
  · rename_i h; subst h; rfl
  · rfl
theorem run_loadCellsFrom {w : World} {b off : Nat} : ∀ (vs : List Value) (i : Nat) (acc : Array Value), (∀ j v, vs[j]? = some v → w.cell? ⟨b, off + (i + j), none⟩ = some v) →
    (loadCellsFrom ⟨b, off, none⟩ i vs.length acc).run P w = .ok (acc ++ vs.toArray) w
  | [], i, acc, _ => by simp [loadCellsFrom]
  | v :: vs, i, acc, h => by
    have h0 := h 0 v rfl
    simp only [Nat.add_zero] at h0
    have hr := run_loadCellsFrom vs (i + 1) (acc.push v) fun j u e => by
      have := h (j + 1) u (by simpa using e)
      rwa [show i + 1 + j = i + (j + 1) by omega]
    simp only [List.length_cons, loadCellsFrom, Sem.run_bind, addr_add, run_load, h0, Result.andThen_ok, hr]
    simp
theorem run_loadCells {w : World} {b off : Nat} {vs : List Value} (h : ∀ j v, vs[j]? = some v → w.cell? ⟨b, off + j, none⟩ = some v) :
    (loadCells ⟨b, off, none⟩ vs.length).run P w = .ok vs.toArray w := by
  have := run_loadCellsFrom (P := P) (w := w) (b := b) (off := off) vs 0 #[] fun j v e => by simpa using h j v e
  simpa [loadCells] using this
theorem Runs.loadN {d : Option Tmp} {T : TypeId} {x : Operand} {b off k : Nat} {cs : List Value} {U : TypeId} {fr : Nat × Nat} {vs : List Value} (hx : Env.ev E x = some (.pointer (some ⟨b, off, none⟩)))
    (hT : Agg P T k) (hm : Has L b (.cells cs.toArray U fr)) (hc : (cs.drop off).take k = vs) (hl : vs.length = k) : Runs P n E L ⟨d, .load T x, ty, ps, af, gd⟩ (.agg vs.toArray) := fun a w hA hS => by
  have h1 : (loadCells ⟨b, off, none⟩ vs.length).run P w = .ok vs.toArray w := run_loadCells fun j v e => cell_at (hm w hS) (by
    rw [← hc, List.getElem?_take] at e
    split at e
    · rw [List.getElem?_drop] at e; simpa using e
    · cases e)
  rw [hl] at h1
  simp [execOp, hA.ev hx, Instr.loadAt, Instr.sureAddr, loadVar, hT.1 w, hT.2 w, h1]

/-! ### Memory that is written -/
/-- Cells from off on, laid anew. -/
def wrs (cs : List Value) (off : Nat) : List Value → List Value
  | [] => cs
  | v :: vs => wrs (cs.set off v) (off + 1) vs
theorem run_storeCells : ∀ (vs : List Value) (i off : Nat) (cs : List Value) (w : World) {b : Nat} {T : TypeId}, (∀ v ∈ vs, v.oneCell' = true) → off + (i + vs.length) ≤ cs.length →
    w.heap[b]? = some (.cells cs.toArray T (0, 0)) → ∃ w', (storeCells ⟨b, off, none⟩ vs i).run P w = .ok () w' ∧ w'.heap[b]? = some (.cells (wrs cs (off + i) vs).toArray T (0, 0)) ∧
      (∀ c, c ≠ b → w'.heap[c]? = w.heap[c]?) ∧ sigOf w' = sigOf w
  | [], i, off, cs, w, b, T, _, _, hb => ⟨w, by simp [storeCells], hb, fun _ _ => rfl, rfl⟩
  | v :: vs, i, off, cs, w, b, T, h1, hl, hb => by
    simp only [List.length_cons] at hl
    have hlt : off + i < cs.length := by omega
    have hc : w.cell? ⟨b, off + i, none⟩ = some cs[off + i] := cell_at hb (by simp [hlt])
    have hf : w.frozen? ⟨b, off + i, none⟩ = false := by simp [World.frozen?, hb]
    have hb' : (w.setCell ⟨b, off + i, none⟩ v).heap[b]? = some (.cells (cs.set (off + i) v).toArray T (0, 0)) := by
      have hbl : b < w.heap.size := by
        rcases Nat.lt_or_ge b w.heap.size with h' | h'
        · exact h'
        · simp [Array.getElem?_eq_none h'] at hb
      have hb2 : w.heap[b] = .cells cs.toArray T (0, 0) := by simpa [Array.getElem?_eq_getElem hbl] using hb
      simp [World.setCell, Array.getElem?_modify, hb2, Array.getElem?_eq_getElem hbl]
    obtain ⟨w', hr, hb2, hne, hg⟩ := run_storeCells vs (i + 1) off (cs.set (off + i) v) (w.setCell ⟨b, off + i, none⟩ v) (b := b) (T := T) (fun u hu => h1 u (List.mem_cons_of_mem _ hu)) (by simp; omega) hb'
    refine ⟨w', ?_, by simpa [wrs, Nat.add_assoc] using hb2, fun c hc' => ?_, hg⟩
    · simp only [storeCells, Sem.run_bind, addr_add]
      rw [run_store P w _ v _ (h1 v (List.mem_cons_self ..)), hc]
      simp [hf, hr]
    · rw [hne c hc']
      simp [World.setCell, Array.getElem?_modify, Ne.symm hc']
theorem Acts.store {T : TypeId} {x y : Operand} {b off k : Nat} {cs cs' vs : List Value} {U : TypeId} {v : Value} {L' : List HP} (hx : Env.ev E x = some (.pointer (some ⟨b, off, none⟩)))
    (hy : Env.ev E y = some v) (hT : ∀ w, (sizeOf T).run P w = .ok k w) (hv : v.cells = vs.toArray) (hl : vs.length = k) (h1 : vs.all Value.oneCell' = true)
    (_ : Has L b (.cells cs.toArray U (0, 0))) (ho : off + k ≤ cs.length) (hw : wrs cs off vs = cs') (hm : UpdL L b (.cells cs.toArray U (0, 0)) (.cells cs'.toArray U (0, 0)) L') :
    Acts P n E L ⟨none, .store T x y, ty, ps, af, gd⟩ L' := fun a w hA hS => by
  subst hw
  obtain ⟨w', hr, hb, hne, hg⟩ := run_storeCells (P := P) vs 0 off cs w (b := b) (T := U) (by simpa using h1) (by omega) (hm.has w hS)
  refine ⟨w', ?_, hm.sat hS hg (by simpa using hb) fun c o hc e => by rw [hne c hc]; exact e⟩
  simp [execOp, hA.ev hx, hA.ev hy, Instr.storeAt, Instr.sureAddr, storeVar, hT w, hl, hv, hr]

/-! ### New memory -/
theorem heap_new (w : World) (o : Obj) : ({ w with heap := w.heap.push o } : World).heap[w.heap.size]? = some o := by simp
theorem heap_old (w : World) (o : Obj) (c : Nat) (x : Obj) (h : w.heap[c]? = some x) : ({ w with heap := w.heap.push o } : World).heap[c]? = some x := by
  have hc : c < w.heap.size := by
    rcases Nat.lt_or_ge c w.heap.size with h' | h'
    · exact h'
    · simp [Array.getElem?_eq_none h'] at h
  have : (w.heap.push o)[c]? = w.heap[c]? := by simp [Array.getElem?_push, Nat.ne_of_lt hc]
  simpa [this] using h
/-- Whatever makes one new row. -/
theorem RunsX.new {o : Oper} {T : TypeId} {cs : List Value} {v : Nat → Value} (h : ∀ a w, Agr n E a → (execOp a.eval o).run P w = .ok (.value (v w.heap.size)) { w with heap := w.heap.push (.cells cs.toArray T (0, 0)) }) :
    RunsX P n E L o v (fun b => cel b T cs :: L) := fun a w hA hS => ⟨w.heap.size, _, h a w hA, hS.new rfl (heap_new w _) (heap_old w _)⟩
theorem RunsX.box {d : Option Tmp} {T : TypeId} {x : Operand} {v : Value} {cs : List Value} (hx : Env.ev E x = some v) (hc : v.cells = cs.toArray) :
    RunsX P n E L ⟨d, .box T x, ty, ps, af, gd⟩ (fun b => .pointer (some ⟨b, 0, none⟩)) (fun b => cel b T cs :: L) :=
  RunsX.new fun a w hA => by simp [execOp, hA.ev hx, Instr.box, newVar, newRow, hc]
theorem RunsX.alloc {d : Option Tmp} {T : TypeId} {z : Value} {cs : List Value} (hz : ∀ w, (zeroValue T).run P w = .ok z w) (hc : z.cells = cs.toArray) :
    RunsX P n E L ⟨d, .alloc T, ty, ps, af, gd⟩ (fun b => .pointer (some ⟨b, 0, none⟩)) (fun b => cel b T cs :: L) :=
  RunsX.new fun a w hA => by simp [execOp, Instr.alloc, newVar, newRow, hc, hz w]
theorem RunsX.buildSlice {d : Option Tmp} {T U : TypeId} {len : Nat} {parts : List (Nat × Operand)} {vs : List (Nat × Value)} {cs : List Value} (hp : Env.evp E parts = some vs)
    (h : ∀ w, (Instr.buildSlice T len vs.toArray).run P w = .ok (.slice (some ⟨w.heap.size, 0, none⟩) len len) { w with heap := w.heap.push (.cells cs.toArray U (0, 0)) }) :
    RunsX P n E L ⟨d, .buildSlice T len parts.toArray, ty, ps, af, gd⟩ (fun b => .slice (some ⟨b, 0, none⟩) len len) (fun b => cel b U cs :: L) :=
  RunsX.new fun a w hA => by
    have := hA.evp hp
    simp [execOp, this, h w]
theorem RunsX.makeMap {d : Option Tmp} {T : TypeId} :
    RunsX P n E L ⟨d, .makeMap T none, ty, ps, af, gd⟩ (fun b => .map (some b)) (fun b => blk b (.map #[] 0) :: L) := fun a w hA hS =>
  ⟨w.heap.size, _, by simp [execOp, Instr.makeMap], hS.new (w' := { w with heap := w.heap.push (.map #[] 0) }) rfl (heap_new w _) (heap_old w _)⟩

/-! ### Calls -/
/-- It returns; x: what is not known ahead. -/
def Ret {α : Type} (v : α → Value) (L' : α → List HP) : Ending → World → Prop := fun e w' => ∃ x, e = .returned (v x) ∧ Sat w' (L' x)
def Enters (P : Program) (f : FuncId) : Prop := ∀ args w, (callFunc f args).run P w = .ok (.enter f args) w
theorem Wl.call {t f : Nat} {args tys : List _} {vs : List Value} {α : Type} {v : α → Value} {L' : α → List HP} (hf : Enters P f) (hargs : Env.evs E args = some vs)
    (spec : ∀ w, Sat w L → Calls P f vs.toArray w (Ret v L')) (ht : Nat.blt t n = true) (k : ∀ x, Wl P n Q ((t, v x) :: E) (L' x) ops rest) :
    Wl P n Q E L ops (⟨some t, .call { callee := .value (.func f), args := args.toArray, argTypes := tys.toArray }, ty, ps, af, none⟩ :: rest) := fun a w hA hS =>
  wpList_plain rfl fun K hK => by
    have hv := hA.evs hargs
    have hr : (execOp a.eval ⟨some t, .call { callee := .value (.func f), args := args.toArray, argTypes := tys.toArray }, ty, ps, af, none⟩).run P w = .ok (.enter f vs.toArray) w := by
      simp [execOp, resolve, Act.eval, Deferred.ofValue, invoke, hv, hf vs.toArray w]
    unfold Oper.wp
    rw [hr, Oper.upon_enter]
    refine (spec w hS).mono fun e w' he => ?_
    obtain ⟨x, rfl, hS'⟩ := he
    exact hK _ _ (k x _ _ (hA.put ht _) hS')
/-- A call through a function value. -/
theorem Wl.callv {t f fx : Nat} {args tys : List _} {cap : List Value} {vs : List Value} {α : Type} {v : α → Value} {L' : α → List HP} (hx : Env.get E fx = some (.func (.func f) #[] cap.toArray)) (hf : Enters P f) (hargs : Env.evs E args = some vs)
    (spec : ∀ w, Sat w L → Calls P f (vs ++ cap).toArray w (Ret v L')) (ht : Nat.blt t n = true) (k : ∀ x, Wl P n Q ((t, v x) :: E) (L' x) ops rest) :
    Wl P n Q E L ops (⟨some t, .call { callee := .value (.tmp fx), args := args.toArray, argTypes := tys.toArray }, ty, ps, af, none⟩ :: rest) := fun a w hA hS =>
  wpList_plain rfl fun K hK => by
    have hv := hA.evs hargs
    have hx' : a.eval (.tmp fx) = .func (.func f) #[] cap.toArray := hA.ev hx
    have hr : (execOp a.eval ⟨some t, .call { callee := .value (.tmp fx), args := args.toArray, argTypes := tys.toArray }, ty, ps, af, none⟩).run P w = .ok (.enter f (vs ++ cap).toArray) w := by
      have := hf (vs ++ cap).toArray w
      simpa [execOp, resolve, hx', Deferred.ofValue, invoke, hv] using this
    unfold Oper.wp
    rw [hr, Oper.upon_enter]
    refine (spec w hS).mono fun e w' he => ?_
    obtain ⟨x, rfl, hS'⟩ := he
    exact hK _ _ (k x _ _ (hA.put ht _) hS')
theorem Ret.mono {α β : Type} {v : α → Value} {L' : α → List HP} {v' : β → Value} {L'' : β → List HP} {f : FuncId} {args : Array Value} {w : World} (h : Calls P f args w (Ret v L'))
    (hm : ∀ x w', Sat w' (L' x) → ∃ y, v x = v' y ∧ Sat w' (L'' y)) : Calls P f args w (Ret v' L'') :=
  h.mono fun e w' ⟨x, he, hS⟩ => let ⟨y, hy, hS'⟩ := hm x w' hS; ⟨y, by rw [he, hy], hS'⟩

/-! ### A function: its begin, its end -/
def enum (k : Nat) : List Value → Env
  | [] => []
  | v :: vs => (k, v) :: enum (k + 1) vs
theorem enum_get : ∀ (vs : List Value) (k t : Nat) (v : Value), Env.get (enum k vs) t = some v → ∃ i, t = k + i ∧ vs[i]? = some v
  | [], k, t, v, e => by simp [enum, Env.get] at e
  | u :: vs, k, t, v, e => by
    simp only [enum, Env.get] at e
    by_cases hk : k = t
    · subst hk; simp at e; subst e; exact ⟨0, by simp⟩
    · rw [beq_no hk] at e
      obtain ⟨i, hi, h⟩ := enum_get vs (k + 1) t v e
      exact ⟨i + 1, by omega, by simpa using h⟩
theorem Agr.enter (vs : List Value) (hl : vs.length ≤ n) : Agr n (enum 0 vs) { tmps := vs.toArray ++ Array.replicate (n - vs.toArray.size) undef, defers := [] } := by
  refine ⟨by simp; omega, rfl, fun t v e => ?_⟩
  obtain ⟨i, rfl, h⟩ := enum_get vs 0 t v e
  have hi : i < vs.length := by
    rcases Nat.lt_or_ge i vs.length with h' | h'
    · exact h'
    · simp [List.getElem?_eq_none h'] at h
  rw [List.getElem?_eq_getElem hi] at h
  simpa [Array.getElem?_append, hi] using h
theorem Spec.enter {f : FuncId} {fn : Func} {c : Code} {vs : List Value} {R : Ending → World → Prop} (hf : P.funcs[f]? = some fn) (hb : fn.body = some c) (hn : fn.ntmps = n) (hl : Nat.ble vs.length n = true)
    (h : Wc P n (bodyPost P fn R) (enum 0 vs) L c) : ∀ w, Sat w L → Calls P f vs.toArray w R := fun w hS => by
  subst hn
  exact calls_of_wp hf hb (h _ w (Agr.enter vs (Nat.le_of_ble_eq_true hl)) hS)
theorem Agr.getD {a : Act} (hA : Agr n E a) {t : Nat} {v : Value} (h : Env.get E t = some v) : a.tmps.getD t undef = v := by
  have := hA.get t v h
  simp [Array.getD_eq_getD_getElem?, this]
theorem At.ret1 {fn : Func} {α : Type} {v : α → Value} {L' : α → List HP} {t : Nat} (x : α) (hr : fn.results = #[.tmp t]) (hv : Env.get E t = some (v x)) (hm : ∀ w, Sat w L → Sat w (L' x)) :
    At n E L (bodyPost P fn (Ret v L') .ret) := fun a w hA hS => ⟨hA.defers, v x, by rw [results_tmp hr, hA.getD hv], x, rfl, hm w hS⟩
theorem At.ret2 {fn : Func} {α : Type} {v : α → Value} {L' : α → List HP} {t u : Nat} {v1 v2 : Value} (x : α) (hr : fn.results = #[.tmp t, .tmp u]) (h1 : Env.get E t = some v1) (h2 : Env.get E u = some v2) (hv : v x = .tuple #[v1, v2]) (hm : ∀ w, Sat w L → Sat w (L' x)) :
    At n E L (bodyPost P fn (Ret v L') .ret) := fun a w hA hS => ⟨hA.defers, v x, by rw [results_tmp2 hr, hA.getD h1, hA.getD h2, hv], x, rfl, hm w hS⟩
theorem At.ret0 {fn : Func} {α : Type} {v : α → Value} {L' : α → List HP} (x : α) (hr : fn.results = #[]) (hv : v x = .tuple #[]) (hm : ∀ w, Sat w L → Sat w (L' x)) :
    At n E L (bodyPost P fn (Ret v L') .ret) := fun a w hA hS => ⟨hA.defers, v x, by rw [results_none hr, hv], x, rfl, hm w hS⟩
theorem At.end0 {fn : Func} {α : Type} {v : α → Value} {L' : α → List HP} (x : α) (hr : fn.results = #[]) (hv : v x = .tuple #[]) (hm : ∀ w, Sat w L → Sat w (L' x)) :
    At n E L (bodyPost P fn (Ret v L') .normal) := fun a w hA hS => ⟨hA.defers, v x, by rw [results_none hr, hv], x, rfl, hm w hS⟩
/-- A result that lies in memory, of one struct. -/
theorem At.retN {fn : Func} {α : Type} {v : α → Value} {L' : α → List HP} {t : Nat} {T : TypeId} {b off k : Nat} {cs : List Value} {U : TypeId} {fr : Nat × Nat} {vs : List Value} (x : α) (hr : fn.results = #[.cell t T]) (hv : Env.get E t = some (.pointer (some ⟨b, off, none⟩)))
    (hT : Agg P T k) (hm : Has L b (.cells cs.toArray U fr)) (hc : (cs.drop off).take k = vs) (hl : vs.length = k) (he : v x = .agg vs.toArray) (hm' : ∀ w, Sat w L → Sat w (L' x)) :
    At n E L (bodyPost P fn (Ret v L') .ret) := fun a w hA hS => by
  have h1 : (loadCells ⟨b, off, none⟩ vs.length).run P w = .ok vs.toArray w := run_loadCells fun j v e => cell_at (hm w hS) (by
    rw [← hc, List.getElem?_take] at e
    split at e
    · rw [List.getElem?_drop] at e; simpa using e
    · cases e)
  rw [hl] at h1
  refine ⟨hA.defers, v x, ?_, x, rfl, hm' w hS⟩
  have h0 := hA.get t _ hv
  simp [results, hr, h0, asAddr, loadVar, hT.1 w, hT.2 w, h1, he]
end
section
variable {P : Program} {n : Nat} {Q : Exit → Act → World → Prop} {E : Env} {L : List HP}
theorem At.again {α : Type} {EI : α → Env} {LI : α → List HP} {I : α → Prop} {m : α → Nat} {x : α} (y : α) (hI : I y) (hlt : m y < m x) (hk : Env.keeps E (EI y)) (hm : ∀ w, Sat w L → Sat w (LI y)) :
    At n E L (Exit.then (fun a w => ∃ y, I y ∧ m y < m x ∧ Agr n (EI y) a ∧ Sat w (LI y)) Q .normal) := fun _ w hA hS => ⟨y, hI, hlt, hA.sub (Env.keeps_get hk), hm w hS⟩
end
end Go.Proofs.Sl

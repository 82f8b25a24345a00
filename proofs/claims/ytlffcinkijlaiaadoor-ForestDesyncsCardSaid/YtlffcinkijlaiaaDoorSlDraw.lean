/- Regions whose order is open: what only computes or reads is taken first; what turns memory comes where it must. -/
import Derived.Test.YtlffcinkijlaiaaDoorSlSlice
import Derived.OrdersHeld
namespace Go.Proofs.Sl
open Go

section
variable {P : Program} {ops : Array Oper} {Q : Exit → Act → World → Prop} {S : World → Prop} {needs : Nat → Bool}
/-- Whatever comes up next, till all have come up; behind one that needs it, S. -/
def anyS (P : Program) (ops : Array Oper) (Q : Exit → Act → World → Prop) (needs : Nat → Bool) (S : World → Prop) : Nat → Array Bool → Act → World → Prop
  | 0, listed, a, w => Region.ready .any ops listed = [] ∧ Q .normal a w
  | k + 1, listed, a, w => (Region.ready .any ops listed = [] → Q .normal a w) ∧
    ∀ i ∈ Region.ready .any ops listed, wpOp P ops Q i (fun a' w' => (needs i = true → S w → S w') ∧ anyS P ops Q needs S k (listed.setIfInBounds i true) a' w') a w
theorem anyS.any : ∀ (k : Nat) (listed : Array Bool) (a : Act) (w : World), anyS P ops Q needs S k listed a w → wpAny P .any ops Q k listed a w
  | 0, _, _, _, h => h
  | k + 1, _, _, _, h => ⟨h.1, fun i hi => wpOp_mono (fun a' w' q => anyS.any k _ a' w' q.2) (h.2 i hi)⟩
/-- An operation j that may come while i waits stands apart from i; and keeps what i reads. -/
def freeS (needs : Nat → Bool) (ops : Array Oper) (rd : Bool) (listed : Array Bool) (i : Nat) : Bool := match ops[i]? with
  | none => false
  | some oi => (List.range ops.size).all fun j => j == i || listed.getD j true || match ops[j]? with
    | none => true
    | some oj => oj.after.any (fun e => Region.binds .any e && e.on == i) || (oi.apart ops oj && (!rd || needs j))
theorem freeS.spec {rd : Bool} {listed : Array Bool} {i j : Nat} {oi oj : Oper} (h : freeS needs ops rd listed i = true) (hi : ops[i]? = some oi) (hj : ops[j]? = some oj) (hne : j ≠ i)
    (hun : listed.getD j true = false) (hno : ∀ e ∈ oj.after, Region.binds .any e = true → e.on ≠ i) : oi.apart ops oj = true ∧ (rd = true → needs j = true) := by
  unfold freeS at h
  rw [hi] at h
  have hj' : j < ops.size := (Array.getElem?_eq_some_iff.1 hj).1
  have h1 := List.all_eq_true.1 h j (List.mem_range.2 hj')
  rw [hj] at h1
  simp only [Bool.or_eq_true, beq_iff_eq, hne, false_or, hun, Bool.false_eq_true, Bool.and_eq_true, Bool.not_eq_true'] at h1
  rcases h1 with h1 | ⟨h1, h2⟩
  · obtain ⟨e, he, hb⟩ := Array.any_eq_true'.1 h1
    simp only [Bool.and_eq_true, beq_iff_eq] at hb
    exact absurd hb.2 (hno e he hb.1)
  · exact ⟨h1, fun hr => h2.resolve_left (by rw [hr]; simp)⟩
theorem anyS.first {rd : Bool} {i : Nat} {oi : Oper} {v : Value} (hi : ops[i]? = some oi) (hs : Region.noSelect ops = true) (hQ : ∀ c a w, Q (.panic c) (a.put oi.dst v) w → Q (.panic c) a w) :
    ∀ (k : Nat) (listed : Array Bool) (a : Act) (w : World), (∀ j oj, ops[j]? = some oj → j ≠ i → listed.getD j true = false → (∀ e ∈ oj.after, Region.binds .any e = true → e.on ≠ i) → oi.apart ops oj = true ∧ (rd = true → needs j = true)) →
      i ∈ Region.ready .any ops listed → YieldsIf P ops (fun w => rd = true → S w) oi v a → (rd = true → S w) →
      anyS P ops Q needs S k (listed.setIfInBounds i true) (a.put oi.dst v) w → anyS P ops Q needs S (k + 1) listed a w := by
  intro k
  induction k with
  | zero =>
    intro listed a w _ hr hy hS H
    refine ⟨fun h => (by rw [h] at hr; cases hr), fun j hj => ?_⟩
    rcases Decidable.em (j = i) with rfl | hji
    · exact hy.wpOp hi hS ⟨fun _ h => h, H⟩
    · have := ready_mono hj hji
      rw [H.1] at this
      cases this
  | succ k ih =>
    intro listed a w hf hr hy hS H
    refine ⟨fun h => (by rw [h] at hr; cases hr), fun j hj => ?_⟩
    rcases Decidable.em (j = i) with rfl | hji
    · exact hy.wpOp hi hS ⟨fun _ h => h, H⟩
    · have hjH := H.2 j (ready_mono hj hji)
      obtain ⟨hun, oj, hoj, hall⟩ := mem_ready.1 hj
      have hri := (mem_ready.1 hr).1
      have hno : ∀ e ∈ oj.after, Region.binds .any e = true → e.on ≠ i := fun e he hb heq => by
        have ht := hall e he hb
        rw [heq] at ht
        have hlt : i < listed.size := by
          rcases Nat.lt_or_ge i listed.size with h' | h'
          · exact h'
          · simp [Array.getElem?_eq_none h'] at ht
        simp [hlt] at hri ht
        rw [hri] at ht; cases ht
      obtain ⟨hap, hnd⟩ := hf j oj hoj hji hun hno
      have hput := wpOp_putIf (S := fun w => rd = true → S w) hoj hap (fun cs b => Region.noSelect_spec hs i oi cs b hi) (fun cs b => Region.noSelect_spec hs j oj cs b hoj) hQ hy hjH
      refine wpOp_mono (fun a' w' q => ⟨fun hn hw => q.2.1 hn hw, ?_⟩) hput
      refine ih (listed.setIfInBounds j true) a' w' (fun m om hm hmi hmu hmn => hf m om hm hmi ?_ hmn) (ready_mono hr (Ne.symm hji)) q.1 (fun hrd => q.2.1 (hnd hrd) (hS hrd)) ?_
      · rcases Decidable.em (j = m) with rfl | hjm
        · exact hun
        · rwa [getD_set_ne true hjm] at hmu
      · rw [Array.setIfInBounds_comm _ _ hji]; exact q.2.2
/-! ### The moves -/
variable {n : Nat} {E : Env} {L LR : List HP}
/-- Whatever order is taken, from a state of which so much is known. -/
def Wd (P : Program) (n : Nat) (Q : Exit → Act → World → Prop) (E : Env) (L : List HP) (ops : Array Oper) (needs : Nat → Bool) (LR : List HP) (k : Nat) (listed : Array Bool) : Prop :=
  ∀ a w, Agr n E a → Sat w L → anyS P ops Q needs (fun w => Sat w LR) k listed a w
theorem Wd.begin (needs : Nat → Bool) (LR : List HP) {id : Nat} {l : List Oper} (hm : P.follows .mixedOrders = true)
    (h : Wd P n Q E L l.toArray needs LR l.length (Array.replicate l.length false)) : Wc P n Q E L (.region id l.toArray true) := fun a w hA hS =>
  wp_region_any hm (by simpa using anyS.any _ _ _ _ (h a w.drew hA (hS.heap rfl rfl)))
theorem Wd.begin0 (needs : Nat → Bool) {id : Nat} {l : List Oper} (hm : P.follows .mixedOrders = true)
    (h : Wd P n Q E L l.toArray needs L l.length (Array.replicate l.length false)) : Wc P n Q E L (.region id l.toArray true) := Wd.begin needs L hm h
variable {k : Nat} {listed : Array Bool}
theorem Wd.done (hr : Region.ready .any ops listed = []) (h : At n E L (Q .normal)) : Wd P n Q E L ops needs LR k listed := fun a w hA hS => by
  cases k with
  | zero => exact ⟨hr, h a w hA hS⟩
  | succ k => exact ⟨fun _ => h a w hA hS, by rw [hr]; simp⟩
theorem Sat.nil (w : World) : Sat w [] := ⟨fun _ => none, fun _ _ h => (nomatch h), trivial⟩
theorem wanted_none {o : Oper} (h : o.guard = none) (y : Nat → Option Bool) : Region.wanted o y = true := by simp [Region.wanted, h]
/-- Number i, that only computes or reads, comes first. -/
theorem Wd.take (i : Nat) (rd : Bool) {t : Nat} {op : Op} {ty : TypeId} {ps : String} {af : Array Edge} {v : Value} (hi : ops[i]? = some ⟨some t, op, ty, ps, af, none⟩) (hs : Region.noSelect ops = true)
    (hf : freeS needs ops rd listed i = true) (hr : (Region.ready .any ops listed).contains i = true) (hQ : ∀ c a w v, Q (.panic c) (a.put (some t) v) w → Q (.panic c) a w)
    (hv : Runs P n E (if rd = true then LR else []) ⟨some t, op, ty, ps, af, none⟩ v) (hm : rd = true → ∀ w, Sat w L → Sat w LR) (ht : Nat.blt t n = true)
    (h : Wd P n Q ((t, v) :: E) L ops needs LR k (listed.setIfInBounds i true)) : Wd P n Q E L ops needs LR (k + 1) listed := fun a w hA hS =>
  anyS.first (rd := rd) hi hs (fun c a w => hQ c a w v) k listed a w (fun _ _ hj hne hun hno => freeS.spec hf hi hj hne hun hno) (by simpa using hr)
    (.inl ⟨wanted_none rfl _, fun w' hw' => hv a w' hA (by
      cases rd with
      | true => exact hw' rfl
      | false => exact Sat.nil w')⟩) (fun hrd => hm hrd w hS) (h _ w (hA.put ht v) hS)
/-- The same, of one that is guarded, and let through. -/
theorem Wd.takeg (i : Nat) (rd : Bool) {t j d : Nat} {b : Bool} {op : Op} {ty : TypeId} {ps : String} {af : Array Edge} {v : Value} (hi : ops[i]? = some ⟨some t, op, ty, ps, af, some (j, b)⟩) (hs : Region.noSelect ops = true)
    (hf : freeS needs ops rd listed i = true) (hr : (Region.ready .any ops listed).contains i = true) (hQ : ∀ c a w v, Q (.panic c) (a.put (some t) v) w → Q (.panic c) a w)
    (hj : (ops[j]?).bind (·.dst) = some d) (hd : Env.get E d = some (.bool b))
    (hv : Runs P n E (if rd = true then LR else []) ⟨some t, op, ty, ps, af, some (j, b)⟩ v) (hm : rd = true → ∀ w, Sat w L → Sat w LR) (ht : Nat.blt t n = true)
    (h : Wd P n Q ((t, v) :: E) L ops needs LR k (listed.setIfInBounds i true)) : Wd P n Q E L ops needs LR (k + 1) listed := fun a w hA hS =>
  anyS.first (rd := rd) hi hs (fun c a w => hQ c a w v) k listed a w (fun _ _ hj hne hun hno => freeS.spec hf hi hj hne hun hno) (by simpa using hr)
    (.inl ⟨by simp [Region.wanted, yielded_of hA hj hd], fun w' hw' => hv a w' hA (by
      cases rd with
      | true => exact hw' rfl
      | false => exact Sat.nil w')⟩) (fun hrd => hm hrd w hS) (h _ w (hA.put ht v) hS)
section
variable {t j d : Nat} {b : Bool} {op : Op} {ty : TypeId} {ps : String} {af : Array Edge} {v : Value}
theorem Wd.takeR (i : Nat) (hi : ops[i]? = some ⟨some t, op, ty, ps, af, none⟩) (hs : Region.noSelect ops = true)
    (hf : freeS needs ops true listed i = true) (hr : (Region.ready .any ops listed).contains i = true) (hQ : ∀ c a w v, Q (.panic c) (a.put (some t) v) w → Q (.panic c) a w) (hm : ∀ w, Sat w L → Sat w LR)
    (hv : Runs P n E LR ⟨some t, op, ty, ps, af, none⟩ v) (ht : Nat.blt t n = true) (h : Wd P n Q ((t, v) :: E) L ops needs LR k (listed.setIfInBounds i true)) : Wd P n Q E L ops needs LR (k + 1) listed :=
  Wd.take i true hi hs hf hr hQ hv (fun _ => hm) ht h
theorem Wd.takeP (i : Nat) (hi : ops[i]? = some ⟨some t, op, ty, ps, af, none⟩) (hs : Region.noSelect ops = true)
    (hf : freeS needs ops false listed i = true) (hr : (Region.ready .any ops listed).contains i = true) (hQ : ∀ c a w v, Q (.panic c) (a.put (some t) v) w → Q (.panic c) a w)
    (hv : Runs P n E [] ⟨some t, op, ty, ps, af, none⟩ v) (ht : Nat.blt t n = true) (h : Wd P n Q ((t, v) :: E) L ops needs LR k (listed.setIfInBounds i true)) : Wd P n Q E L ops needs LR (k + 1) listed :=
  Wd.take i false hi hs hf hr hQ hv (fun h => nomatch h) ht h
theorem Wd.takegR (i : Nat) (hi : ops[i]? = some ⟨some t, op, ty, ps, af, some (j, b)⟩) (hs : Region.noSelect ops = true)
    (hf : freeS needs ops true listed i = true) (hr : (Region.ready .any ops listed).contains i = true) (hQ : ∀ c a w v, Q (.panic c) (a.put (some t) v) w → Q (.panic c) a w) (hm : ∀ w, Sat w L → Sat w LR)
    (hj : (ops[j]?).bind (·.dst) = some d) (hd : Env.get E d = some (.bool b))
    (hv : Runs P n E LR ⟨some t, op, ty, ps, af, some (j, b)⟩ v) (ht : Nat.blt t n = true) (h : Wd P n Q ((t, v) :: E) L ops needs LR k (listed.setIfInBounds i true)) : Wd P n Q E L ops needs LR (k + 1) listed :=
  Wd.takeg i true hi hs hf hr hQ hj hd hv (fun _ => hm) ht h
theorem Wd.takegP (i : Nat) (hi : ops[i]? = some ⟨some t, op, ty, ps, af, some (j, b)⟩) (hs : Region.noSelect ops = true)
    (hf : freeS needs ops false listed i = true) (hr : (Region.ready .any ops listed).contains i = true) (hQ : ∀ c a w v, Q (.panic c) (a.put (some t) v) w → Q (.panic c) a w)
    (hj : (ops[j]?).bind (·.dst) = some d) (hd : Env.get E d = some (.bool b))
    (hv : Runs P n E [] ⟨some t, op, ty, ps, af, some (j, b)⟩ v) (ht : Nat.blt t n = true) (h : Wd P n Q ((t, v) :: E) L ops needs LR k (listed.setIfInBounds i true)) : Wd P n Q E L ops needs LR (k + 1) listed :=
  Wd.takeg i false hi hs hf hr hQ hj hd hv (fun h => nomatch h) ht h
end
/-- One that its guard holds back. -/
theorem Wd.skip (i : Nat) {t j d : Nat} {b c : Bool} {op : Op} {ty : TypeId} {ps : String} {af : Array Edge} (hi : ops[i]? = some ⟨some t, op, ty, ps, af, some (j, b)⟩) (hs : Region.noSelect ops = true)
    (hf : freeS needs ops false listed i = true) (hr : (Region.ready .any ops listed).contains i = true) (hQ : ∀ c a w v, Q (.panic c) (a.put (some t) v) w → Q (.panic c) a w)
    (hj : (ops[j]?).bind (·.dst) = some d) (hd : Env.get E d = some (.bool c)) (hbc : (c == b) = false) (ht : Nat.blt t n = true)
    (h : Wd P n Q ((t, undef) :: E) L ops needs LR k (listed.setIfInBounds i true)) : Wd P n Q E L ops needs LR (k + 1) listed := fun a w hA hS =>
  anyS.first (rd := false) hi hs (fun c a w => hQ c a w undef) k listed a w (fun _ _ hj hne hun hno => freeS.spec hf hi hj hne hun hno) (by simpa using hr)
    (.inr ⟨by simp only [Region.wanted, yielded_of hA hj hd]; cases b <;> cases c <;> first | rfl | (simp at hbc), rfl⟩) (fun hrd => by cases hrd) (h _ w (hA.put ht undef) hS)
theorem Wd.mem {L' : List HP} (hm : ∀ w, Sat w L → Sat w L') (h : Wd P n Q E L' ops needs LR k listed) : Wd P n Q E L ops needs LR k listed := fun a w hA hS => h a w hA (hm w hS)
theorem Wd.memEx.{u} {α : Sort u} {L' : α → List HP} (hm : ∀ w, Sat w L → ∃ x, Sat w (L' x)) (h : ∀ x, Wd P n Q E (L' x) ops needs LR k listed) : Wd P n Q E L ops needs LR k listed := fun a w hA hS =>
  let ⟨x, hx⟩ := hm w hS; h x a w hA hx
theorem Wd.know {p : Prop} (hm : ∀ w, Sat w L → p) (h : p → Wd P n Q E L ops needs LR k listed) : Wd P n Q E L ops needs LR k listed := fun a w hA hS => h (hm w hS) a w hA hS
theorem Wd.split (d : Nat) {b : Bool} (hd : Env.get E d = some (.bool b)) (ht : b = true → Wd P n Q ((d, .bool true) :: E) L ops needs LR k listed) (hf : b = false → Wd P n Q ((d, .bool false) :: E) L ops needs LR k listed) :
    Wd P n Q E L ops needs LR k listed := fun a w hA hS => by
  have sub : ∀ b', b = b' → Agr n ((d, .bool b') :: E) a := fun b' hb => hA.sub fun t v e => by
    simp only [Env.get] at e
    by_cases hk : d = t
    · subst hk; simp at e; rw [hd, hb, e]
    · rw [beq_no hk] at e; exact e
  cases hb : b with
  | true => exact ht hb a w (sub true hb) hS
  | false => exact hf hb a w (sub false hb) hS
theorem Wd.splitd (d : Nat) {p : Prop} [Decidable p] (hd : Env.get E d = some (.bool (decide p))) (ht : p → Wd P n Q ((d, .bool true) :: E) L ops needs LR k listed) (hf : ¬ p → Wd P n Q ((d, .bool false) :: E) L ops needs LR k listed) :
    Wd P n Q E L ops needs LR k listed := Wd.split d hd (fun h => ht (of_decide_eq_true h)) (fun h => hf (of_decide_eq_false h))
theorem wpOp_of {K : Act → World → Prop} {i : Nat} {o : Oper} {a : Act} {w : World} (hi : ops[i]? = some o) (hg : Region.wanted o (yielded ops a.tmps) = true) (h : o.wp P a w K Q) : wpOp P ops Q i K a w := by
  unfold wpOp
  simp only [hi, hg, if_true]
  exact .inl h
/-- Number i alone may come: it turns memory. -/
theorem Wd.one (i : Nat) {o : Oper} (hi : ops[i]? = some o) (hr : Region.ready .any ops listed = [i])
    (h : ∀ a w, Agr n E a → Sat w L → wpOp P ops Q i (fun a' w' => (needs i = true → Sat w LR → Sat w' LR) ∧ anyS P ops Q needs (fun w => Sat w LR) k (listed.setIfInBounds i true) a' w') a w) : Wd P n Q E L ops needs LR (k + 1) listed := fun a w hA hS =>
  ⟨fun h0 => (by rw [hr] at h0; cases h0), fun j hj => (by rw [hr] at hj; simp at hj; subst hj; exact h a w hA hS)⟩
section
variable {t i : Nat} {op : Op} {ty : TypeId} {ps : String} {af : Array Edge}
theorem Wd.valX {α : Type} {v : α → Value} {L' : α → List HP} (i : Nat) (hi : ops[i]? = some ⟨some t, op, ty, ps, af, none⟩) (hr : Region.ready .any ops listed = [i])
    (hx : RunsX P n E L ⟨some t, op, ty, ps, af, none⟩ v L') (hm : needs i = true → ∀ x w, Sat w (L' x) → Sat w LR) (ht : Nat.blt t n = true)
    (h : ∀ x, Wd P n Q ((t, v x) :: E) (L' x) ops needs LR k (listed.setIfInBounds i true)) : Wd P n Q E L ops needs LR (k + 1) listed :=
  Wd.one i hi hr fun a w hA hS => wpOp_of hi (wanted_none rfl _) (by
    obtain ⟨x, w', hrun, hS'⟩ := hx a w hA hS
    unfold Oper.wp
    rw [hrun, Oper.upon_value]
    exact ⟨fun hn _ => hm hn x w' hS', h x _ _ (hA.put ht _) hS'⟩)
theorem Wd.act {L' : List HP} (i : Nat) (hi : ops[i]? = some ⟨none, op, ty, ps, af, none⟩) (hr : Region.ready .any ops listed = [i])
    (hx : Acts P n E L ⟨none, op, ty, ps, af, none⟩ L') (hm : needs i = true → ∀ w, Sat w L' → Sat w LR)
    (h : Wd P n Q E L' ops needs LR k (listed.setIfInBounds i true)) : Wd P n Q E L ops needs LR (k + 1) listed :=
  Wd.one i hi hr fun a w hA hS => wpOp_of hi (wanted_none rfl _) (by
    obtain ⟨w', hrun, hS'⟩ := hx a w hA hS
    unfold Oper.wp
    rw [hrun, Oper.upon_skip]
    exact ⟨fun hn _ => hm hn w' hS', h _ _ hA hS'⟩)
theorem Wd.call {f : Nat} {args tys : List _} {vs : List Value} {α : Type} {v : α → Value} {L' : α → List HP} {gd : Option (Nat × Bool)} (i : Nat)
    (hi : ops[i]? = some ⟨some t, .call { callee := .value (.func f), args := args.toArray, argTypes := tys.toArray }, ty, ps, af, gd⟩) (hr : Region.ready .any ops listed = [i]) (hf : Enters P f) (hargs : Env.evs E args = some vs)
    (hg : ∀ a, Agr n E a → Region.wanted ⟨some t, .call { callee := .value (.func f), args := args.toArray, argTypes := tys.toArray }, ty, ps, af, gd⟩ (yielded ops a.tmps) = true)
    (spec : ∀ w, Sat w L → Calls P f vs.toArray w (Ret v L')) (hm : needs i = true → ∀ x w, Sat w (L' x) → Sat w LR) (ht : Nat.blt t n = true)
    (h : ∀ x, Wd P n Q ((t, v x) :: E) (L' x) ops needs LR k (listed.setIfInBounds i true)) : Wd P n Q E L ops needs LR (k + 1) listed :=
  Wd.one i hi hr fun a w hA hS => wpOp_of hi (hg a hA) (by
    have hv := hA.evs hargs
    have hrun : (execOp a.eval ⟨some t, .call { callee := .value (.func f), args := args.toArray, argTypes := tys.toArray }, ty, ps, af, gd⟩).run P w = .ok (.enter f vs.toArray) w := by
      simp [execOp, resolve, Act.eval, Deferred.ofValue, invoke, hv, hf vs.toArray w]
    unfold Oper.wp
    rw [hrun, Oper.upon_enter]
    refine (spec w hS).mono fun e w' he => ?_
    obtain ⟨x, rfl, hS'⟩ := he
    exact ⟨fun hn _ => hm hn x w' hS', h x _ _ (hA.put ht _) hS'⟩)
end
end
end Go.Proofs.Sl
namespace Go.Proofs.Sl
open Go
/-! ### Operations that may come in many orders, each beside the others -/
/-- What stands in the slots. -/
def slots (a : Act) (t : Nat) : Value := a.tmps.getD t undef
/-- An operation: its number, its slot, what it leaves (told by slots), whose leavings it reads. -/
structure Item where
  i : Nat
  t : Nat
  R : (Nat → Value) → HP
  pre : List Nat
  S : List Nat
  dep : ∀ s s', (∀ u ∈ S, s u = s' u) → R s = R s'
theorem slots_put {a : Act} {t u : Nat} {v : Value} (h : u ≠ t) : slots (a.put (some t) v) u = slots a u := by
  simp [slots, Act.put, Array.getElem?_setIfInBounds_ne (Ne.symm h)]
theorem Agr.slot {n : Nat} {E : Env} {a : Act} (hA : Agr n E a) {t : Nat} (ht : Nat.blt t n = true) {v : Value} (h : slots a t = v) : Agr n ((t, v) :: E) a := by
  have ht' : t < a.tmps.size := by rw [hA.size]; simpa using ht
  refine ⟨hA.size, hA.defers, fun k u e => ?_⟩
  simp only [Env.get] at e
  by_cases hk : t = k
  · subst hk
    simp at e; subst e
    simp [slots, Array.getD_eq_getD_getElem?, ht'] at h
    simp [ht', h]
  · rw [beq_no hk] at e; exact hA.get k u e
theorem slot_of {n : Nat} {E : Env} {a : Act} (hA : Agr n E a) {t : Nat} {v : Value} (h : Env.get E t = some v) : slots a t = v := hA.getD h
section
variable {P : Program} {ops : Array Oper} {Q : Exit → Act → World → Prop} {needs : Nat → Bool} {n : Nat} {E : Env} {L LR : List HP}
def leav (listed : Array Bool) (s : Nat → Value) (it : Item) : HP := if listed.getD it.i false = true then it.R s else Grp []
def bpre (ops : Array Oper) (j k : Nat) : Bool := match ops[j]? with
  | some o => o.after.any fun e => Region.binds .any e && e.on == k
  | none => false
/-- The items are all that may come till they all have come; each waits only for what stands ahead of it, and for those whose leavings it reads. -/
def chkItems (ops : Array Oper) (listed : Array Bool) (items : List (Nat × List Nat)) : Bool :=
  ((List.range ops.size).all fun j => listed.getD j true || items.any (fun it => it.1 == j) || items.all fun it => bpre ops j it.1) &&
  (items.all fun it => it.2.all fun k => bpre ops it.1 k) && (items.all fun it => Nat.blt it.1 listed.size && !(listed.getD it.1 true)) &&
  (items.all fun it => (List.range ops.size).all fun k => !bpre ops it.1 k || (Nat.blt k it.1 && (listed.getD k false || items.any fun jt => jt.1 == k))) &&
  (items.all fun it => match ops[it.1]? with | some o => o.after.all fun e => Nat.blt e.on ops.size | none => false)
theorem bpre_done {listed : Array Bool} {j k : Nat} (hr : j ∈ Region.ready .any ops listed) (h : bpre ops j k = true) : listed.getD k false = true := by
  obtain ⟨_, o, ho, hall⟩ := mem_ready.1 hr
  unfold bpre at h
  rw [ho] at h
  obtain ⟨e, he, hb⟩ := Array.any_eq_true'.1 h
  simp only [Bool.and_eq_true, beq_iff_eq] at hb
  have := hall e he hb.1
  rwa [hb.2] at this
theorem getD_both {listed : Array Bool} {j : Nat} (h : j < listed.size) : listed.getD j true = listed.getD j false := by simp [h]
theorem getD_true_of_false {listed : Array Bool} {j : Nat} (h : listed.getD j false = true) : listed.getD j true = true := by
  have hj : j < listed.size := by
    rcases Nat.lt_or_ge j listed.size with h' | h'
    · exact h'
    · simp [Array.getElem?_eq_none h'] at h
  rw [getD_both hj]; exact h
structure ItemsOk (ops : Array Oper) (listed0 : Array Bool) (items : List Item) : Prop where
  others : ∀ j, j < ops.size → listed0.getD j true = false → (∀ it ∈ items, it.i ≠ j) → ∀ it ∈ items, bpre ops j it.i = true
  reads : ∀ it ∈ items, ∀ k ∈ it.pre, bpre ops it.i k = true
  fresh : ∀ it ∈ items, it.i < listed0.size ∧ listed0.getD it.i true = false
  ahead : ∀ it ∈ items, ∃ o, ops[it.i]? = some o ∧ ∀ e ∈ o.after, Region.binds .any e = true → e.on < it.i ∧ (listed0.getD e.on false = true ∨ ∃ jt ∈ items, jt.i = e.on)
theorem chkItems.ok {listed0 : Array Bool} {items : List Item} (h : chkItems ops listed0 (items.map fun it => (it.i, it.pre)) = true) : ItemsOk ops listed0 items := by
  unfold chkItems at h
  simp only [Bool.and_eq_true, List.all_eq_true, List.mem_range, List.all_map, List.any_map, Function.comp, Bool.or_eq_true, List.any_eq_true, beq_iff_eq, Bool.not_eq_true'] at h
  obtain ⟨⟨⟨⟨h1, h2⟩, h3⟩, h4⟩, h5⟩ := h
  refine ⟨fun j hj hu hn it hit => ?_, h2, fun it hit => ⟨by simpa using (h3 it hit).1, (h3 it hit).2⟩, fun it hit => ?_⟩
  · rcases h1 j hj with (h | ⟨jt, hjt, he⟩) | h
    · rw [hu] at h; cases h
    · exact absurd he (hn jt hjt)
    · exact h it hit
  · have h5' := h5 it hit
    cases ho : ops[it.i]? with
    | none => rw [ho] at h5'; cases h5'
    | some o =>
      refine ⟨o, rfl, fun e he hb => ?_⟩
      rw [ho] at h5'
      have hlt : e.on < ops.size := by
        have := Array.all_eq_true_iff_forall_mem.1 h5' e he
        simpa using this
      have hbp : bpre ops it.i e.on = true := by
        unfold bpre; rw [ho]
        exact Array.any_eq_true'.2 ⟨e, he, by simp [hb]⟩
      rcases h4 it hit e.on hlt with h | ⟨h6, h7⟩
      · rw [hbp] at h; cases h
      · refine ⟨by simpa using h6, ?_⟩
        rcases h7 with h7 | ⟨jt, hjt, he⟩
        · exact .inl h7
        · exact .inr ⟨jt, hjt, he⟩
theorem getD_lt {listed : Array Bool} {j : Nat} (h : listed.getD j true = false) : j < listed.size := by
  rcases Nat.lt_or_ge j listed.size with h' | h'
  · exact h'
  · simp [Array.getElem?_eq_none h'] at h
theorem anyS.items {S : World → Prop} (items : List Item) (listed0 : Array Bool) (hc : chkItems ops listed0 (items.map fun it => (it.i, it.pre)) = true)
    (hdist : (items.map Item.i).Nodup)
    (hst : ∀ it ∈ items, ∀ jt ∈ items, it.i ≠ jt.i → bpre ops it.i jt.i = false → ∀ s s', (∀ u, u ≠ jt.t → s u = s' u) → it.R s = it.R s')
    (hEt : ∀ it ∈ items, Env.get E it.t = none) (hS : ∀ w, Sat w L → S w)
    (step : ∀ it ∈ items, ∀ a w (M : List HP), Agr n E a → (∀ jt ∈ items, jt.i ∈ it.pre → ∀ w, Sat w M → Sat w [jt.R (slots a)]) → (∀ w, Sat w M → Sat w L) → Sat w M →
      wpOp P ops Q it.i (fun a' w' => ∃ v, a' = a.put (some it.t) v ∧ Sat w' (it.R (slots a') :: M)) a w)
    (k0 : Nat) (fin : ∀ listed a w, listed.size = listed0.size → (∀ j, listed.getD j true = (listed0.getD j true || items.any fun it => it.i == j)) → Agr n E a → Sat w (items.map (fun it => it.R (slots a)) ++ L) → anyS P ops Q needs S k0 listed a w) :
    ∀ (m : Nat) (listed : Array Bool) (a : Act) (w : World), (items.filter fun it => !(listed.getD it.i false)).length = m → listed.size = listed0.size →
      (∀ j, (∀ it ∈ items, it.i ≠ j) → listed.getD j true = listed0.getD j true) → (∀ it ∈ items, listed.getD it.i false = true → ∀ k, bpre ops it.i k = true → listed.getD k false = true) →
      Agr n E a → Sat w (items.map (leav listed (slots a)) ++ L) → anyS P ops Q needs S (m + k0) listed a w := by
  have ok := chkItems.ok hc
  intro m
  induction m with
  | zero =>
    intro listed a w hm hsz hoth hcl hA hSat
    have hall : ∀ it ∈ items, listed.getD it.i false = true := by
      intro it hit
      have := List.length_eq_zero_iff.1 hm
      rw [List.filter_eq_nil_iff] at this
      simpa using this it hit
    rw [Nat.zero_add]
    refine fin listed a w hsz (fun j => ?_) hA ?_
    · by_cases hj : ∃ it ∈ items, it.i = j
      · obtain ⟨it, hit, rfl⟩ := hj
        have h1 : (items.any fun jt => jt.i == it.i) = true := List.any_eq_true.2 ⟨it, hit, by simp⟩
        rw [h1, Bool.or_true]
        exact getD_true_of_false (hall it hit)
      · have h1 : (items.any fun jt => jt.i == j) = false := by
          rw [List.any_eq_false]; intro jt hjt; simp; exact fun h => hj ⟨jt, hjt, h⟩
        rw [h1, Bool.or_false]
        exact hoth j fun it hit h => hj ⟨it, hit, h⟩
    · have e : items.map (leav listed (slots a)) = items.map (fun it => it.R (slots a)) := List.map_congr_left fun it hit => by simp only [leav, hall it hit, if_true]
      rwa [← e]
  | succ m ih =>
    intro listed a w hm hsz hoth hcl hA hSat
    rw [Nat.succ_add]
    -- one that waits for nothing
    have hex : ∃ it ∈ items, listed.getD it.i false = false := by
      rcases Classical.em (∃ it ∈ items, listed.getD it.i false = false) with h | h
      · exact h
      · exfalso
        have : (items.filter fun it => !(listed.getD it.i false)) = [] := by
          rw [List.filter_eq_nil_iff]
          intro it hit
          cases hh : listed.getD it.i false with
          | true => simp
          | false => exact absurd ⟨it, hit, hh⟩ h
        rw [this] at hm; simp at hm
    have hready : Region.ready .any ops listed ≠ [] := by
      have key : ∀ N, ∀ it ∈ items, it.i < N → listed.getD it.i false = false → ∃ j, j ∈ Region.ready .any ops listed := by
        intro N
        induction N with
        | zero => intro it _ h; omega
        | succ N ihN =>
          intro it hit hlt hun
          obtain ⟨o, ho, hall⟩ := ok.ahead it hit
          rcases Classical.em (∃ e ∈ o.after, Region.binds .any e = true ∧ listed.getD e.on false = false) with ⟨e, he, hb, hf⟩ | hno
          · obtain ⟨hlt', h | ⟨jt, hjt, hje⟩⟩ := hall e he hb
            · exfalso
              by_cases hi : ∃ jt ∈ items, jt.i = e.on
              · obtain ⟨jt, hjt, hje⟩ := hi
                have := (ok.fresh jt hjt).2
                rw [hje, getD_true_of_false h] at this; cases this
              · have h2 := hoth e.on fun jt hjt hje => hi ⟨jt, hjt, hje⟩
                rw [getD_true_of_false h] at h2
                have hs : e.on < listed.size := by
                  rw [hsz]
                  rcases Nat.lt_or_ge e.on listed0.size with h' | h'
                  · exact h'
                  · simp [Array.getElem?_eq_none h'] at h
                rw [getD_both hs] at h2; rw [h2] at hf; cases hf
            · exact ihN jt hjt (by omega) (by rw [hje]; exact hf)
          · refine ⟨it.i, mem_ready.2 ⟨?_, o, ho, fun e he hb => ?_⟩⟩
            · rw [getD_both (by rw [hsz]; exact (ok.fresh it hit).1)]; exact hun
            · cases hh : listed.getD e.on false with
              | true => rfl
              | false => exact absurd ⟨e, he, hb, hh⟩ hno
      obtain ⟨it, hit, hun⟩ := hex
      obtain ⟨j, hj⟩ := key (it.i + 1) it hit (by omega) hun
      intro h0; rw [h0] at hj; cases hj
    refine ⟨fun h => absurd h hready, fun j hj => ?_⟩
    obtain ⟨hun, oj, hoj, _⟩ := mem_ready.1 hj
    -- it is an item
    have hitem : ∃ it ∈ items, it.i = j := by
      rcases Classical.em (∃ it ∈ items, it.i = j) with h | h
      · exact h
      · exfalso
        have hn : ∀ it ∈ items, it.i ≠ j := fun it hit he => h ⟨it, hit, he⟩
        have h0 := hoth j hn
        rw [hun] at h0
        obtain ⟨it, hit, hf⟩ := hex
        have := bpre_done hj (ok.others j (Array.getElem?_eq_some_iff.1 hoj).1 h0.symm hn it hit)
        rw [hf] at this; cases this
    obtain ⟨it, hit, rfl⟩ := hitem
    have hunf : listed.getD it.i false = false := by rw [← getD_both (getD_lt hun)]; exact hun
    have hpre : ∀ jt ∈ items, jt.i ∈ it.pre → ∀ w, Sat w (items.map (leav listed (slots a)) ++ L) → Sat w [jt.R (slots a)] := by
      intro jt hjt hp w hw
      have hd := bpre_done hj (ok.reads it hit jt.i hp)
      have hmem : jt.R (slots a) ∈ items.map (leav listed (slots a)) ++ L := List.mem_append_left _ (List.mem_map.2 ⟨jt, hjt, by simp only [leav, hd, if_true]⟩)
      obtain ⟨l1, l2, hl⟩ := List.append_of_mem hmem
      rw [hl] at hw
      exact Sat.left (L := [jt.R (slots a)]) (M := l1 ++ l2) (hw.perm (List.perm_middle (l₁ := l1) (l₂ := l2)))
    refine wpOp_mono (fun a' w' q => ?_) (step it hit a w _ hA hpre (fun w h => h.right) hSat)
    obtain ⟨v, rfl, hS'⟩ := q
    have hA' : Agr n E (a.put (some it.t) v) := by
      refine ⟨by simp [Act.put, hA.size], by simp [Act.put, hA.defers], fun u x e => ?_⟩
      have hne : it.t ≠ u := by rintro rfl; rw [hEt it hit] at e; cases e
      simp only [Act.put, Array.getElem?_setIfInBounds_ne hne]
      exact hA.get u x e
    refine ⟨fun _ _ => hS _ hS'.drop.right, ?_⟩
    have hlt : it.i < listed.size := getD_lt hun
    have hset : ∀ k, (listed.setIfInBounds it.i true).getD k false = if k = it.i then true else listed.getD k false := by
      intro k
      by_cases hk : k = it.i
      · subst hk; simp [hlt]
      · rw [if_neg hk, getD_set_ne false (Ne.symm hk)]
    refine ih (listed.setIfInBounds it.i true) _ w' ?_ (by simpa using hsz) (fun k hk => ?_) (fun jt hjt hd k hk => ?_) hA' ?_
    · -- one less waits
      have hf : (items.filter fun jt => !(listed.getD jt.i false)).length = (items.filter fun jt => !((listed.setIfInBounds it.i true).getD jt.i false)).length + 1 := by
        clear step fin hst hSat hS' hpre ih hm hex hready hcl hoth ok hc hEt
        induction items with
        | nil => cases hit
        | cons jt items ihl =>
          simp only [List.map_cons, List.nodup_cons] at hdist
          simp only [List.filter_cons, hset]
          rcases List.mem_cons.1 hit with rfl | hit'
          · have e : (items.filter fun jt => !(listed.getD jt.i false)) = items.filter fun jt => !(if jt.i = it.i then true else listed.getD jt.i false) := by
              refine List.filter_congr fun jt hjt => ?_
              have : jt.i ≠ it.i := fun he => hdist.1 (he ▸ List.mem_map_of_mem hjt)
              rw [if_neg this]
            rw [← e, hunf]
            simp only [Bool.not_false, Bool.not_true, ↓reduceIte, Bool.false_eq_true, List.length_cons]
          · have hne : jt.i ≠ it.i := fun he => hdist.1 (he ▸ List.mem_map_of_mem hit')
            have := ihl hdist.2 hit'
            simp only [hset] at this
            rw [if_neg hne]
            split
            · rw [List.length_cons, List.length_cons, this]
            · exact this
      omega
    · rw [getD_set_ne true (hk it hit)]; exact hoth k hk
    · rw [hset] at hd ⊢
      split
      · rfl
      · rename_i hkne
        by_cases hji : jt.i = it.i
        · rw [hji] at hk; exact bpre_done hj hk
        · rw [if_neg hji] at hd; exact hcl jt hjt hd k hk
    · -- what has been left
      obtain ⟨l1, l2, hl⟩ := List.append_of_mem hit
      have hst' : ∀ jt ∈ items, jt.i ≠ it.i → leav (listed.setIfInBounds it.i true) (slots (a.put (some it.t) v)) jt = leav listed (slots a) jt := by
        intro jt hjt hne
        unfold leav
        rw [hset, if_neg hne]
        split
        · rename_i hd
          refine hst jt hjt it hit hne ?_ _ _ fun u hu => slots_put hu
          cases hb : bpre ops jt.i it.i with
          | false => rfl
          | true => have := hcl jt hjt hd it.i hb; rw [hunf] at this; cases this
        · rfl
      have hnd := hdist
      rw [hl] at hnd
      simp only [List.map_append, List.map_cons] at hnd
      have hn1 : ∀ jt ∈ l1, jt.i ≠ it.i := fun jt hjt he => (List.nodup_append.1 hnd).2.2 _ (List.mem_map_of_mem hjt) _ (List.mem_cons_self ..) he
      have hn2 : ∀ jt ∈ l2, jt.i ≠ it.i := fun jt hjt he => (List.nodup_cons.1 (List.nodup_append.1 hnd).2.1).1 (he ▸ List.mem_map_of_mem hjt)
      have e1 : l1.map (leav (listed.setIfInBounds it.i true) (slots (a.put (some it.t) v))) = l1.map (leav listed (slots a)) :=
        List.map_congr_left fun jt hjt => hst' jt (by rw [hl]; exact List.mem_append_left _ hjt) (hn1 jt hjt)
      have e2 : l2.map (leav (listed.setIfInBounds it.i true) (slots (a.put (some it.t) v))) = l2.map (leav listed (slots a)) :=
        List.map_congr_left fun jt hjt => hst' jt (by rw [hl]; exact List.mem_append_right _ (List.mem_cons_of_mem _ hjt)) (hn2 jt hjt)
      have e3 : leav (listed.setIfInBounds it.i true) (slots (a.put (some it.t) v)) it = it.R (slots (a.put (some it.t) v)) := by unfold leav; rw [hset]; simp
      rw [hl] at hS' ⊢
      simp only [List.map_append, List.map_cons, e1, e2, e3, List.append_assoc, List.cons_append] at hS' ⊢
      have p1 : (it.R (slots (a.put (some it.t) v)) :: (l1.map (leav listed (slots a)) ++ leav listed (slots a) it :: (l2.map (leav listed (slots a)) ++ L))).Perm
          (leav listed (slots a) it :: (l1.map (leav listed (slots a)) ++ it.R (slots (a.put (some it.t) v)) :: (l2.map (leav listed (slots a)) ++ L))) := by
        refine List.Perm.trans (List.Perm.cons _ List.perm_middle) ?_
        refine List.Perm.trans (List.Perm.swap _ _ _) ?_
        exact List.Perm.cons _ List.perm_middle.symm
      exact (hS'.perm p1).drop
end
end Go.Proofs.Sl
namespace Go.Proofs.Sl
open Go
/-- A value's block; a header over given elements. -/
def vb : Value → Nat
  | .pointer (some p) => p.block
  | .slice (some p) _ _ => p.block
  | _ => 0
def sliOf {α : Type} (v : Value) (xs : List α) : Sli α := match v with
  | .slice a _ c => ⟨a, c, xs⟩
  | _ => ⟨none, 0, xs⟩
theorem sliOf_xs {α : Type} (v : Value) (xs : List α) : (sliOf v xs).xs = xs := by unfold sliOf; split <;> rfl
theorem sliOf_v {α : Type} (q : Sli α) : sliOf q.v q.xs = q := rfl
def rowR (t len : Nat) (T : TypeId) (cs : List Value) (s : Nat → Value) : HP := Grp [Pure (s t = .slice (some ⟨vb (s t), 0, none⟩) len len), cel (vb (s t)) T cs]
def varR (t : Nat) (T : TypeId) (cs : List Value) (s : Nat → Value) : HP := Grp [Pure (s t = .pointer (some ⟨vb (s t), 0, none⟩)), cel (vb (s t)) T cs]
def resR {α : Type} (e : Enc α) (t : Nat) (xs : List α) (s : Nat → Value) : HP := Grp [Pure (s t = (sliOf (s t) xs).v), own e (sliOf (s t) xs)]
def lst (items : List Item) (listed0 : Array Bool) : Array Bool := items.foldl (fun l it => l.setIfInBounds it.i true) listed0
theorem lst_spec : ∀ (items : List Item) (l : Array Bool), (lst items l).size = l.size ∧ ∀ j, (lst items l).getD j true = (l.getD j true || items.any fun it => it.i == j)
  | [], l => ⟨rfl, by simp [lst]⟩
  | it :: items, l => by
    obtain ⟨h1, h2⟩ := lst_spec items (l.setIfInBounds it.i true)
    refine ⟨by simpa [lst] using h1, fun j => ?_⟩
    have := h2 j
    simp only [lst, List.foldl_cons] at this ⊢
    rw [this]
    by_cases hj : it.i = j
    · subst hj
      have : (l.setIfInBounds it.i true).getD it.i true = true := by
        by_cases hlt : it.i < l.size <;> simp [hlt]
      rw [this]; simp
    · rw [getD_set_ne true hj]
      have : (it.i == j) = false := by simp [hj]
      simp [this]
theorem lst_eq {items : List Item} {l0 l : Array Bool} (hs : l.size = l0.size) (h : ∀ j, l.getD j true = (l0.getD j true || items.any fun it => it.i == j)) : l = lst items l0 := by
  obtain ⟨h1, h2⟩ := lst_spec items l0
  refine Array.ext (by rw [hs, h1]) fun i hi hj => ?_
  have a := h i
  rw [← h2 i] at a
  simpa [hi, hj] using a
theorem Sat.toGrps {w : World} {L : List HP} : ∀ (k : List Item) (f : Item → HP), (∀ it ∈ k, f it = Grp []) → Sat w L → Sat w (k.map f ++ L)
  | [], _, _, h => h
  | it :: k, f, hf, h => by
    have h1 := Sat.toGrps k f (fun jt hj => hf jt (List.mem_cons_of_mem _ hj)) h
    simp only [List.map_cons, List.cons_append]
    rw [hf it (List.mem_cons_self ..)]
    exact Sat.group (M := []) h1
def rowI (i t len : Nat) (T : TypeId) (cs : List Value) : Item := ⟨i, t, rowR t len T cs, [], [t], fun s s' h => by unfold rowR; rw [h t (List.mem_singleton.2 rfl)]⟩
def varI (i t : Nat) (T : TypeId) (cs : List Value) : Item := ⟨i, t, varR t T cs, [], [t], fun s s' h => by unfold varR; rw [h t (List.mem_singleton.2 rfl)]⟩
def resI {α : Type} (e : Enc α) (i t : Nat) (xs : List α) (pre : List Nat) : Item := ⟨i, t, resR e t xs, pre, [t], fun s s' h => by unfold resR; rw [h t (List.mem_singleton.2 rfl)]⟩
def AllI (p : Item → Prop) : List Item → Prop
  | [] => True
  | x :: l => p x ∧ AllI p l
theorem AllI.mem {p : Item → Prop} : ∀ {l : List Item}, AllI p l → ∀ it ∈ l, p it
  | [], _, it, h => nomatch h
  | x :: l, hp, it, h => by
    rcases List.mem_cons.1 h with rfl | h
    · exact hp.1
    · exact AllI.mem hp.2 it h
/-- Slots that an item reads are turned by no other that may come behind it; none of the items' slots is known. -/
def chkSlots (ops : Array Oper) (items : List (Nat × Nat × List Nat)) (E : List Nat) : Bool :=
  (items.all fun it => items.all fun jt => it.1 == jt.1 || bpre ops it.1 jt.1 || !(it.2.2.contains jt.2.1)) && items.all fun it => !(E.contains it.2.1)
theorem Env.get_none {t : Nat} : ∀ {E : Env}, t ∉ E.map Prod.fst → Env.get E t = none
  | [], _ => rfl
  | (k, v) :: E, h => by
    simp only [List.map_cons, List.mem_cons, not_or] at h
    simp only [Env.get, beq_no (Ne.symm h.1)]
    exact Env.get_none h.2
section
variable {P : Program} {ops : Array Oper} {Q : Exit → Act → World → Prop} {needs : Nat → Bool} {n : Nat} {E : Env} {L LR : List HP}
theorem Wd.items (items : List Item) {listed : Array Bool} (hc : chkItems ops listed (items.map fun it => (it.i, it.pre)) = true) (hs : chkSlots ops (items.map fun it => (it.i, it.t, it.S)) (E.map Prod.fst) = true) (hdist : (items.map Item.i).Nodup)
    (hLR : ∀ w, Sat w L → Sat w LR)
    (step : AllI (fun it => ∀ a w (M : List HP), Agr n E a → (∀ jt ∈ items, jt.i ∈ it.pre → ∀ w, Sat w M → Sat w [jt.R (slots a)]) → (∀ w, Sat w M → Sat w L) → Sat w M →
      wpOp P ops Q it.i (fun a' w' => ∃ v, a' = a.put (some it.t) v ∧ Sat w' (it.R (slots a') :: M)) a w) items)
    (k0 : Nat) (fin : ∀ a w, Agr n E a → Sat w (items.map (fun it => it.R (slots a)) ++ L) → anyS P ops Q needs (fun w => Sat w LR) k0 (lst items listed) a w) :
    Wd P n Q E L ops needs LR (items.length + k0) listed := fun a w hA hS => by
  have ok := chkItems.ok hc
  unfold chkSlots at hs
  simp only [Bool.and_eq_true, List.all_eq_true, List.all_map, Function.comp, Bool.or_eq_true, beq_iff_eq, Bool.not_eq_true'] at hs
  obtain ⟨hs1, hs2⟩ := hs
  have hf : ∀ it ∈ items, listed.getD it.i false = false := fun it hit => by rw [← getD_both (ok.fresh it hit).1]; exact (ok.fresh it hit).2
  have hlen : (items.filter fun it => !(listed.getD it.i false)).length = items.length := by
    rw [List.filter_eq_self.2]
    intro it hit; rw [hf it hit]; rfl
  refine anyS.items items listed hc hdist (fun it hit jt hjt hne hb s s' h => it.dep s s' fun u hu => h u ?_) (fun it hit => Env.get_none ?_) hLR (AllI.mem step) k0 (fun l a w hs hl hA hS => ?_) items.length listed a w hlen rfl (fun _ _ => rfl) (fun it hit hd => ?_) hA ?_
  · rintro rfl
    rcases hs1 it hit jt hjt with (h | h) | h
    · exact hne h
    · rw [hb] at h; cases h
    · have : it.S.contains jt.t = true := by simpa using hu
      rw [this] at h; cases h
  · intro hm
    have := hs2 it hit
    have h2 : (E.map Prod.fst).contains it.t = true := by simpa using hm
    rw [h2] at this; cases this
  · rw [lst_eq hs hl]; exact fin a w hA hS
  · rw [hf it hit] at hd; cases hd
  · exact Sat.toGrps items _ (fun it hit => by unfold leav; rw [hf it hit]; rfl) hS
variable {t i : Nat} {op : Op} {ty : TypeId} {ps : String} {af : Array Edge}
theorem item_valX {α : Type} {v : α → Value} {L' : α → List HP} {R : (Nat → Value) → HP} {M : List HP} {a : Act} {w : World} (hi : ops[i]? = some ⟨some t, op, ty, ps, af, none⟩) (hA : Agr n E a) (hS : Sat w M) (ht : Nat.blt t n = true)
    (hx : RunsX P n E M ⟨some t, op, ty, ps, af, none⟩ v L') (hR : ∀ x a' w', slots a' t = v x → Sat w' (L' x) → Sat w' (R (slots a') :: M)) :
    wpOp P ops Q i (fun a' w' => ∃ v, a' = a.put (some t) v ∧ Sat w' (R (slots a') :: M)) a w := wpOp_of hi (wanted_none rfl _) (by
  obtain ⟨x, w', hr, hS'⟩ := hx a w hA hS
  unfold Oper.wp
  rw [hr, Oper.upon_value]
  exact ⟨_, rfl, hR x _ w' (slot_of (hA.put ht (v x)) (by simp [Env.get])) hS'⟩)
theorem item_val {v : Value} {R : (Nat → Value) → HP} {M : List HP} {a : Act} {w : World} (hi : ops[i]? = some ⟨some t, op, ty, ps, af, none⟩) (hA : Agr n E a) (hS : Sat w M) (ht : Nat.blt t n = true)
    (hx : Runs P n E M ⟨some t, op, ty, ps, af, none⟩ v) (hR : ∀ a' w', slots a' t = v → (∀ u, u ≠ t → slots a' u = slots a u) → Sat w' M → Sat w' (R (slots a') :: M)) :
    wpOp P ops Q i (fun a' w' => ∃ v, a' = a.put (some t) v ∧ Sat w' (R (slots a') :: M)) a w := wpOp_of hi (wanted_none rfl _) (by
  unfold Oper.wp
  rw [hx a w hA hS, Oper.upon_value]
  exact ⟨_, rfl, hR _ w (slot_of (hA.put ht v) (by simp [Env.get])) (fun u hu => slots_put hu) hS⟩)
theorem item_call {f : Nat} {args tys : List _} {vs : List Value} {α : Type} {v : α → Value} {L' : α → List HP} {R : (Nat → Value) → HP} {M : List HP} {a : Act} {w : World}
    (hi : ops[i]? = some ⟨some t, .call { callee := .value (.func f), args := args.toArray, argTypes := tys.toArray }, ty, ps, af, none⟩) (hA : Agr n E a) (hS : Sat w M) (ht : Nat.blt t n = true) (hf : Enters P f) (hargs : Env.evs E args = some vs)
    (spec : ∀ w, Sat w M → Calls P f vs.toArray w (Ret v L')) (hR : ∀ x a' w', slots a' t = v x → Sat w' (L' x) → Sat w' (R (slots a') :: M)) :
    wpOp P ops Q i (fun a' w' => ∃ v, a' = a.put (some t) v ∧ Sat w' (R (slots a') :: M)) a w := wpOp_of hi (wanted_none rfl _) (by
  have hv := hA.evs hargs
  have hrun : (execOp a.eval ⟨some t, .call { callee := .value (.func f), args := args.toArray, argTypes := tys.toArray }, ty, ps, af, none⟩).run P w = .ok (.enter f vs.toArray) w := by
    simp [execOp, resolve, Act.eval, Deferred.ofValue, invoke, hv, hf vs.toArray w]
  unfold Oper.wp
  rw [hrun, Oper.upon_enter]
  refine (spec w hS).mono fun e w' he => ?_
  obtain ⟨x, rfl, hS'⟩ := he
  exact ⟨_, rfl, hR x _ w' (slot_of (hA.put ht (v x)) (by simp [Env.get])) hS'⟩)
theorem rowR.put {M : List HP} {w : World} {len : Nat} {T : TypeId} {cs : List Value} {s : Nat → Value} {b : Nat} (h : s t = .slice (some ⟨b, 0, none⟩) len len) (hS : Sat w (cel b T cs :: M)) : Sat w (rowR t len T cs s :: M) := by
  refine Sat.group (M := [_, _]) (Sat.toPure (by simpa [h, vb] using hS) (by rw [h]; rfl))
theorem varR.put {M : List HP} {w : World} {T : TypeId} {cs : List Value} {s : Nat → Value} {b : Nat} (h : s t = .pointer (some ⟨b, 0, none⟩)) (hS : Sat w (cel b T cs :: M)) : Sat w (varR t T cs s :: M) := by
  refine Sat.group (M := [_, _]) (Sat.toPure (by simpa [h, vb] using hS) (by rw [h]; rfl))
theorem resR.put {α : Type} {e : Enc α} {M : List HP} {w : World} {xs : List α} {s : Nat → Value} {q : Sli α} (h : s t = q.v) (hx : q.xs = xs) (hS : Sat w (own e q :: M)) : Sat w (resR e t xs s :: M) := by
  subst hx
  have e1 : sliOf (s t) q.xs = q := by rw [h]; rfl
  refine Sat.group (M := [_, _]) (Sat.toPure (by rw [e1]; exact hS) (by rw [e1]; exact h))
theorem rowR.get {w : World} {len : Nat} {T : TypeId} {cs : List Value} {s : Nat → Value} {M : List HP} (h : Sat w (rowR t len T cs s :: M)) : s t = .slice (some ⟨vb (s t), 0, none⟩) len len ∧ Sat w (cel (vb (s t)) T cs :: M) := by
  have := Sat.ungroup h
  exact ⟨this.pure, this.drop⟩
theorem varR.get {w : World} {T : TypeId} {cs : List Value} {s : Nat → Value} {M : List HP} (h : Sat w (varR t T cs s :: M)) : s t = .pointer (some ⟨vb (s t), 0, none⟩) ∧ Sat w (cel (vb (s t)) T cs :: M) := by
  have := Sat.ungroup h
  exact ⟨this.pure, this.drop⟩
theorem resR.get {α : Type} {e : Enc α} {w : World} {xs : List α} {s : Nat → Value} {M : List HP} (h : Sat w (resR e t xs s :: M)) : s t = (sliOf (s t) xs).v ∧ Sat w (own e (sliOf (s t) xs) :: M) := by
  have := Sat.ungroup h
  exact ⟨this.pure, this.drop⟩
theorem encS_flat {α : Type} (T : TypeId) : ∀ ss : List (Sli α), (encS α T).flat ss = ss.map Sli.v
  | [] => rfl
  | a :: l => by
    have ih := encS_flat T l
    simp only [Enc.flat, List.flatMap_cons, List.map_cons] at *
    rw [ih]; rfl
theorem rds_row {α : Type} {b : Nat} {T : TypeId} {ss : List (Sli α)} {len : Nat} {L : List HP} : Rds (cel b T (ss.map Sli.v) :: L) (encS α T) ⟨some ⟨b, 0, none⟩, len, ss⟩ :=
  .inr ⟨_, _, rfl, fun w hw j v hv => by rw [encS_flat] at hv; exact cell_at hw.get (by simpa using hv)⟩
/-- A row of headers, as a slice of slices. -/
theorem rowR.rds {α : Type} {w0 : World} {T : TypeId} {ss : List (Sli α)} {len : Nat} (hl : ss.length = len) {s : Nat → Value} {M : List HP} (h : ∀ w, Sat w M → Sat w [rowR t len T (ss.map Sli.v) s]) (h0 : Sat w0 M) :
    s t = (⟨some ⟨vb (s t), 0, none⟩, len, ss⟩ : Sli (Sli α)).v ∧ Rds M (encS α T) ⟨some ⟨vb (s t), 0, none⟩, len, ss⟩ := by
  refine ⟨by rw [Sli.v, hl]; exact (rowR.get (h w0 h0)).1, .inr ⟨_, _, rfl, fun w hw j v hv => ?_⟩⟩
  have h1 := (rowR.get (h w hw)).2
  rw [encS_flat] at hv
  exact cell_at h1.get (by simpa using hv)
end
end Go.Proofs.Sl
namespace Go.Proofs.Sl
open Go
theorem Sat.b2 {w : World} {A B C : HP} {L : List HP} (h : Sat w (A :: B :: C :: L)) : Sat w (C :: A :: B :: L) := h.perm (List.perm_middle (l₁ := [A, B]))
theorem Sat.b3 {w : World} {A B C D : HP} {L : List HP} (h : Sat w (A :: B :: C :: D :: L)) : Sat w (D :: A :: B :: C :: L) := h.perm (List.perm_middle (l₁ := [A, B, C]))
theorem Sat.b4 {w : World} {A B C D F : HP} {L : List HP} (h : Sat w (A :: B :: C :: D :: F :: L)) : Sat w (F :: A :: B :: C :: D :: L) := h.perm (List.perm_middle (l₁ := [A, B, C, D]))
theorem Sat.b5 {w : World} {A B C D F G : HP} {L : List HP} (h : Sat w (A :: B :: C :: D :: F :: G :: L)) : Sat w (G :: A :: B :: C :: D :: F :: L) := h.perm (List.perm_middle (l₁ := [A, B, C, D, F]))
theorem Sat.b6 {w : World} {A B C D F G H : HP} {L : List HP} (h : Sat w (A :: B :: C :: D :: F :: G :: H :: L)) : Sat w (H :: A :: B :: C :: D :: F :: G :: L) := h.perm (List.perm_middle (l₁ := [A, B, C, D, F, G]))
end Go.Proofs.Sl

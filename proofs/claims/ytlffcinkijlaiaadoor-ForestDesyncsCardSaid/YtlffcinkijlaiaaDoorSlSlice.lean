/- Slices: a header beside the cells that it shows; rows that are owned; rows that may be read. -/
import Derived.Test.YtlffcinkijlaiaaDoorSlMap
namespace Go.Proofs.Sl
open Go

/-- A slice: where it begins, how many elements there is room for, its elements. -/
structure Sli (α : Type) where
  a : Option Addr
  cap : Nat
  xs : List α
def Sli.v {α : Type} (s : Sli α) : Value := .slice s.a s.xs.length s.cap
def Sli.nil {α : Type} : Sli α := ⟨none, 0, []⟩
/-- An element's cells. -/
structure Enc (α : Type) where
  T : TypeId
  sz : Nat
  f : α → List Value
  len : ∀ x, (f x).length = sz
  one : ∀ x, (f x).all Value.oneCell' = true
def Enc.flat {α : Type} (e : Enc α) (xs : List α) : List Value := xs.flatMap e.f
theorem Enc.flat_length {α : Type} (e : Enc α) (xs : List α) : (e.flat xs).length = xs.length * e.sz := by
  induction xs with
  | nil => simp [Enc.flat]
  | cons x xs ih => simp only [Enc.flat, List.flatMap_cons, List.length_append, e.len, List.length_cons] at *; rw [ih, Nat.add_mul]; omega
theorem Enc.flat_append {α : Type} (e : Enc α) (xs ys : List α) : e.flat (xs ++ ys) = e.flat xs ++ e.flat ys := by simp [Enc.flat]
theorem Enc.flat_get {α : Type} (e : Enc α) : ∀ (xs : List α) (i j : Nat) (x : α) (v : Value), xs[i]? = some x → (e.f x)[j]? = some v → (e.flat xs)[i * e.sz + j]? = some v
  | [], i, j, x, v, h, _ => by simp at h
  | y :: xs, 0, j, x, v, h, hj => by
    simp at h; subst h
    have hlt : j < (e.f y).length := by
      rcases Nat.lt_or_ge j (e.f y).length with h' | h'
      · exact h'
      · simp [List.getElem?_eq_none h'] at hj
    simp only [Enc.flat, List.flatMap_cons, Nat.zero_mul, Nat.zero_add]
    rw [List.getElem?_append_left hlt]; exact hj
  | y :: xs, i + 1, j, x, v, h, hj => by
    have ih := Enc.flat_get e xs i j x v (by simpa using h) hj
    simp only [Enc.flat, List.flatMap_cons]
    rw [List.getElem?_append_right (by rw [e.len, Nat.add_mul]; omega), e.len]
    rw [show (i + 1) * e.sz + j - e.sz = i * e.sz + j by rw [Nat.add_mul]; omega]
    exact ih
/-- A row of headers. -/
def encS (α : Type) (T : TypeId) : Enc (Sli α) := ⟨T, 1, fun s => [s.v], fun _ => rfl, fun _ => rfl⟩
/-- The row of a slice that is owned, with room behind it. -/
def own {α : Type} (e : Enc α) (s : Sli α) : HP := fun h => (s.cap = 0 ∧ s.xs = []) ∨
  ∃ b off cs, s.a = some ⟨b, off, none⟩ ∧ s.xs.length ≤ s.cap ∧ off + s.cap * e.sz ≤ cs.length ∧ (cs.drop off).take (s.xs.length * e.sz) = e.flat s.xs ∧ cel b e.T cs h
/-- The slice may be read. -/
def Rds {α : Type} (L : List HP) (e : Enc α) (s : Sli α) : Prop :=
  s.xs = [] ∨ ∃ b off, s.a = some ⟨b, off, none⟩ ∧ ∀ w, Sat w L → ∀ j v, (e.flat s.xs)[j]? = some v → w.cell? ⟨b, off + j, none⟩ = some v
theorem Rds.there {α : Type} {L : List HP} {e : Enc α} {s : Sli α} {A : HP} (h : Rds L e s) : Rds (A :: L) e s := by
  rcases h with h | ⟨b, off, ha, hc⟩
  · exact .inl h
  · exact .inr ⟨b, off, ha, fun w hw => hc w hw.drop⟩
theorem Rds.weak {α : Type} {L L' : List HP} {e : Enc α} {s : Sli α} (h : Rds L e s) (hm : ∀ w, Sat w L' → Sat w L) : Rds L' e s := by
  rcases h with h | ⟨b, off, ha, hc⟩
  · exact .inl h
  · exact .inr ⟨b, off, ha, fun w hw => hc w (hm w hw)⟩
theorem Sat.own {α : Type} {w : World} {L : List HP} {e : Enc α} {s : Sli α} (h : Sat w (own e s :: L)) :
    (s.cap = 0 ∧ s.xs = [] ∧ Sat w L) ∨ ∃ b off cs, s.a = some ⟨b, off, none⟩ ∧ s.xs.length ≤ s.cap ∧ off + s.cap * e.sz ≤ cs.length ∧ (cs.drop off).take (s.xs.length * e.sz) = e.flat s.xs ∧ Sat w (cel b e.T cs :: L) := by
  obtain ⟨g, l, h1, h2, d, rfl, hA, hS⟩ := h
  rcases hA with ⟨hc, hx⟩ | ⟨b, off, cs, h3, h4, h5, h6, h7⟩
  · exact .inl ⟨hc, hx, h2, fun b o e => l b o (Hp.join_right d e), hS⟩
  · exact .inr ⟨b, off, cs, h3, h4, h5, h6, _, l, h1, h2, d, rfl, h7, hS⟩
theorem Sat.toOwn {α : Type} {w : World} {L : List HP} {e : Enc α} {s : Sli α} {b off : Nat} {cs : List Value} (h : Sat w (cel b e.T cs :: L)) (ha : s.a = some ⟨b, off, none⟩) (hl : s.xs.length ≤ s.cap)
    (hr : off + s.cap * e.sz ≤ cs.length) (hc : (cs.drop off).take (s.xs.length * e.sz) = e.flat s.xs) : Sat w (Sl.own e s :: L) := h.conv fun _ hh => .inr ⟨b, off, cs, ha, hl, hr, hc, hh⟩
theorem Sat.toOwnNil {α : Type} {w : World} {L : List HP} {e : Enc α} {s : Sli α} (h : Sat w L) (hc : s.cap = 0) (hx : s.xs = []) : Sat w (Sl.own e s :: L) := by
  have := h.toPure (p := s.cap = 0 ∧ s.xs = []) ⟨hc, hx⟩
  exact this.conv fun _ hh => .inl hh
theorem take_get {cs ws : List Value} {off n j : Nat} {v : Value} (h : (cs.drop off).take n = ws) (hj : ws[j]? = some v) : cs[off + j]? = some v := by
  subst h
  rw [List.getElem?_take] at hj
  split at hj
  · rwa [List.getElem?_drop] at hj
  · cases hj
theorem Rds.own {α : Type} {L : List HP} {e : Enc α} {s : Sli α} (w0 : World) (h0 : Sat w0 (Sl.own e s :: L)) : Rds (Sl.own e s :: L) e s := by
  rcases h0.own with ⟨_, hx, _⟩ | ⟨b, off, cs, ha, _, _, _, _⟩
  · exact .inl hx
  · refine .inr ⟨b, off, ha, fun w hw j v hv => ?_⟩
    rcases hw.own with ⟨_, hx, _⟩ | ⟨b', off', cs', ha', hl', hr', hc', hS'⟩
    · rw [hx] at hv; simp [Enc.flat] at hv
    · rw [ha] at ha'; cases ha'
      exact cell_at hS'.get (by simpa using take_get hc' hv)
/-- L is A and L'. -/
inductive Rem : List HP → HP → List HP → Prop where
  | here {A : HP} {L : List HP} : Rem (A :: L) A L
  | there {A B : HP} {L L' : List HP} (h : Rem L A L') : Rem (B :: L) A (B :: L')
theorem Rem.perm {L L' : List HP} {A : HP} (h : Rem L A L') : L.Perm (A :: L') := by
  induction h with
  | here => exact .refl _
  | there _ ih => exact (ih.cons _).trans (.swap _ _ _)
theorem Rem.sat {L L' : List HP} {A : HP} (h : Rem L A L') {w : World} (s : Sat w L) : Sat w (A :: L') := s.perm h.perm
theorem Rem.back {L L' : List HP} {A : HP} (h : Rem L A L') {w : World} (s : Sat w (A :: L')) : Sat w L := s.perm h.perm.symm

theorem wrs_length : ∀ (vs cs : List Value) (off : Nat), (wrs cs off vs).length = cs.length
  | [], _, _ => rfl
  | v :: vs, cs, off => by rw [wrs, wrs_length vs]; simp
theorem wrs_eq : ∀ (vs cs : List Value) (off : Nat), off + vs.length ≤ cs.length → wrs cs off vs = cs.take off ++ vs ++ cs.drop (off + vs.length)
  | [], cs, off, h => by simp [wrs]
  | v :: vs, cs, off, h => by
    simp only [List.length_cons] at h
    rw [wrs, wrs_eq vs _ _ (by simp; omega)]
    have h1 : (cs.set off v).take (off + 1) = cs.take off ++ [v] := by
      rw [List.take_set, List.take_succ_eq_append_getElem (by omega)]
      rw [List.set_append_right _ _ (by simp; omega)]
      simp [Nat.min_eq_left (by omega : off ≤ cs.length)]
    rw [h1, List.drop_set_of_lt (by omega)]
    simp [Nat.add_comm 1, Nat.add_assoc]
theorem wrs_take (vs cs : List Value) (off k : Nat) (h : off + k + vs.length ≤ cs.length) : ((wrs cs (off + k) vs).drop off).take (k + vs.length) = (cs.drop off).take k ++ vs := by
  rw [wrs_eq vs cs _ h]
  rw [List.append_assoc, List.drop_append_of_le_length (by simp; omega), List.drop_take, Nat.add_sub_cancel_left]
  rw [List.take_append, List.take_append]
  simp only [List.length_take, List.length_drop]
  rw [Nat.min_eq_left (by omega), Nat.add_sub_cancel_left, List.take_take, Nat.min_eq_right (by omega)]
  simp
/-- M's parts are among L's. -/
inductive Pick : List HP → List HP → Prop where
  | refl {L : List HP} : Pick L L
  | cons {A : HP} {L L' M : List HP} (h : Rem L A L') (p : Pick L' M) : Pick L (A :: M)
  | drop {A : HP} {L M : List HP} (p : Pick L M) : Pick (A :: L) M
theorem Pick.star {L M : List HP} (p : Pick L M) : ∀ h, Star L h → ∃ h', Star M h' ∧ ∀ b o, h' b = some o → h b = some o := by
  induction p with
  | refl => exact fun h s => ⟨h, s, fun _ _ e => e⟩
  | cons hr _ ih2 =>
    intro h s
    obtain ⟨k1, k2, dk, rfl, hA2, hL2⟩ := s.perm hr.perm
    obtain ⟨k3, s3, e3⟩ := ih2 k2 hL2
    refine ⟨Hp.join k1 k3, ⟨k1, k3, fun b => ?_, rfl, hA2, s3⟩, fun b o e => ?_⟩
    · rcases dk b with h | h
      · exact .inl h
      · right
        cases hb : k3 b with
        | none => rfl
        | some o => rw [e3 b o hb] at h; cases h
    · cases hb : k1 b with
      | some x => simp [Hp.join, hb] at e ⊢; exact e
      | none => simp [Hp.join, hb] at e ⊢; exact e3 b o e
  | drop _ ih2 =>
    intro h s
    obtain ⟨k1, k2, dk, rfl, hA2, hL2⟩ := s
    obtain ⟨k3, s3, e3⟩ := ih2 k2 hL2
    exact ⟨k3, s3, fun b o e => Hp.join_right dk (e3 b o e)⟩
theorem Pick.sat {L M : List HP} (p : Pick L M) {w : World} (s : Sat w L) : Sat w M :=
  let ⟨h, l, s⟩ := s; let ⟨h', s', e⟩ := p.star h s; ⟨h', fun b o hb => l b o (e b o hb), s'⟩
section
variable {P : Program} {n : Nat} {Q : Exit → Act → World → Prop} {E : Env} {L : List HP} {ops : Array Oper} {rest : List Oper}
variable {ty : TypeId} {ps : String} {af : Array Edge} {gd : Option (Nat × Bool)}
/-- An element's place. -/
theorem Runs.index {d : Option Tmp} {T el k : TypeId} {x y : Operand} {b off len cap i : Nat} {ii : Int} (hT : ∀ w, (underlying T).run P w = .ok (.slice el) w) (hs : ∀ w, (sizeOf el).run P w = .ok k w)
    (hx : Env.ev E x = some (.slice (some ⟨b, off, none⟩) len cap)) (hy : Env.ev E y = some (.int .i64 ii)) (hi : ii = (i : Int)) (hl : i < len) :
    Runs P n E L ⟨d, .indexAddr T x y, ty, ps, af, gd⟩ (.pointer (some ⟨b, off + i * k, none⟩)) := fun a w hA _ => by
  subst hi
  have h1 : (0 : Int) ≤ (i : Int) ∧ (i : Int) < (len : Int) := ⟨by omega, by omega⟩
  simp [execOp, hA.ev hx, hA.ev hy, Instr.indexAt, asIntOf, hT w, h1, hs w, addr_add]
  omega
/-- A cell of a row that may be read. -/
theorem Runs.loadR {α : Type} {d : Option Tmp} {T : TypeId} {x : Operand} {e : Enc α} {s : Sli α} {b off i j : Nat} {z : α} {v : Value} (hx : Env.ev E x = some (.pointer (some ⟨b, off + i * e.sz + j, none⟩)))
    (hT : Flat P T) (hr : Rds L e s) (ha : s.a = some ⟨b, off, none⟩) (hz : s.xs[i]? = some z) (hv : (e.f z)[j]? = some v) : Runs P n E L ⟨d, .load T x, ty, ps, af, gd⟩ v := fun a w hA hS => by
  rcases hr with hn | ⟨b', off', ha', hc⟩
  · rw [hn] at hz; simp at hz
  · rw [ha] at ha'; cases ha'
    have h1 := hc w hS _ _ (e.flat_get s.xs i j z v hz hv)
    rw [← Nat.add_assoc] at h1
    simp [execOp, hA.ev hx, Instr.loadAt, Instr.sureAddr, loadVar, hT w, h1]
/-- A whole element of several cells. -/
theorem Runs.loadRN {α : Type} {d : Option Tmp} {T : TypeId} {x : Operand} {e : Enc α} {s : Sli α} {b off i : Nat} {z : α} (hx : Env.ev E x = some (.pointer (some ⟨b, off + i * e.sz, none⟩)))
    (hT : Agg P T e.sz) (hr : Rds L e s) (ha : s.a = some ⟨b, off, none⟩) (hz : s.xs[i]? = some z) : Runs P n E L ⟨d, .load T x, ty, ps, af, gd⟩ (.agg (e.f z).toArray) := fun a w hA hS => by
  rcases hr with hn | ⟨b', off', ha', hc⟩
  · rw [hn] at hz; simp at hz
  · rw [ha] at ha'; cases ha'
    have h1 : (loadCells ⟨b, off + i * e.sz, none⟩ (e.f z).length).run P w = .ok (e.f z).toArray w := run_loadCells fun j v hv => by
      have h1 := hc w hS _ _ (e.flat_get s.xs i j z v hz hv)
      rwa [← Nat.add_assoc] at h1
    rw [e.len] at h1
    simp [execOp, hA.ev hx, Instr.loadAt, Instr.sureAddr, loadVar, hT.1 w, hT.2 w, h1]
/-- What is read for append, copy. -/
theorem run_firstCells {α : Type} {e : Enc α} {s : Sli α} {w : World} (hr : Rds L e s) (hS : Sat w L) : (Builtin.firstCells e.sz s.xs.length s.v).run P w = .ok (e.flat s.xs).toArray w := by
  rcases hr with hn | ⟨b, off, ha, hc⟩
  · unfold Sli.v Builtin.firstCells
    rw [hn]
    cases s.a with
    | none => simp [Enc.flat]
    | some p => simp [Enc.flat, loadCells, loadCellsFrom]
  · unfold Sli.v Builtin.firstCells
    rw [ha]
    simp only []
    rw [← e.flat_length s.xs]
    exact run_loadCells fun j v hv => hc w hS j v hv
theorem run_zeroCells (z : Array Value) (k : Nat) : (Builtin.zeroCells z k).toList.length = k * z.size := by simp [Builtin.zeroCells]
/-- What append's new room is. -/
theorem cap_bound {need old : Nat} (h : old < need) : Builtin.nextslicecap need old ≤ 2 * need := by
  have g : ∀ r c, c < need → Builtin.growBy need r c ≤ c + (c + 768) / 4 * r + need * 0 ∨ True := fun _ _ _ => .inr trivial
  unfold Builtin.nextslicecap
  split
  · omega
  · split
    · omega
    · have key : ∀ r c, 256 ≤ c → c ≤ 2 * need → Builtin.growBy need r c ≤ 2 * need := by
        intro r
        induction r with
        | zero => intro c _ h; exact h
        | succ r ih =>
          intro c h1 h2
          simp only [Builtin.growBy]
          split
          · exact h2
          · refine ih _ (by omega) (by omega)
      exact key 4 old (by omega) (by omega)
/-- The element type's row in the program's table. -/
structure ElT {α : Type} (P : Program) (T : TypeId) (e : Enc α) (bytes : Nat) : Prop where
  und : ∀ w, (underlying T).run P w = .ok (.slice e.T) w
  size : ∀ w, (sizeOf e.T).run P w = .ok e.sz w
  byt : ∃ i : TypeInfo, i.bytes = bytes ∧ ∀ w, (typeInfo e.T).run P w = .ok i w
  zero : ∃ z, z.cells.size = e.sz ∧ ∀ w, (zeroValue e.T).run P w = .ok z w
  pos : 0 < bytes
theorem RunsX.append {α : Type} {d : Option Tmp} {T : TypeId} {tys : Array TypeId} {x y : Operand} {e : Enc α} {bytes : Nat} {s r : Sli α} {L1 : List HP} (hT : ElT P T e bytes) (ht0 : tys[0]? = some T) (ht1 : tys[1]? = some T)
    (hx : Env.ev E x = some s.v) (hy : Env.ev E y = some r.v) (hm : Rem L (own e s) L1) (hr : Rds L1 e r) (hb : 2 * (s.xs.length + r.xs.length) * bytes ≤ 281474976710656) :
    RunsX P n E L ⟨d, .call { callee := .builtin .append, args := #[x, y], argTypes := tys }, ty, ps, af, gd⟩ (fun q : { q : Sli α // q.xs = s.xs ++ r.xs } => q.1.v) (fun q => own e q.1 :: L1) := fun a w hA hS => by
  have hS1 := hm.sat hS
  have hSr := hS1.drop
  obtain ⟨info, hbytes, hinfo⟩ := hT.byt
  obtain ⟨z, hz, hzr⟩ := hT.zero
  have hfr := run_firstCells (P := P) hr hSr
  have hwo : ∀ v ∈ e.flat r.xs, v.oneCell' = true := by
    intro v hv
    simp only [Enc.flat, List.mem_flatMap] at hv
    obtain ⟨q, _, hq⟩ := hv
    have := e.one q
    rw [List.all_eq_true] at this
    exact this v hq
  have hrun : ∀ w2, (execOp a.eval ⟨d, .call { callee := .builtin .append, args := #[x, y], argTypes := tys }, ty, ps, af, gd⟩).run P w2 = (do pure (.value (← Builtin.append_ tys ty #[s.v, r.v])) : Sem Next).run P w2 := by
    intro w2; simp [execOp, resolve, invoke, builtin, hA.ev hx, hA.ev hy]
  rw [hrun]
  by_cases hroom : s.xs.length + r.xs.length ≤ s.cap
  · -- there is room
    rcases hS1.own with ⟨h0, hn, _⟩ | ⟨b, off, cs, ha, hl, hlen, hc, hSc⟩
    · have hr0 : r.xs = [] := by
        have : r.xs.length = 0 := by omega
        exact List.eq_nil_of_length_eq_zero this
      have hfr0 : (Builtin.firstCells e.sz 0 r.v).run P w = .ok #[] w := by
        have := hfr; rw [hr0] at this; simpa [Enc.flat] using this
      refine ⟨⟨s, by rw [hr0]; simp⟩, w, ?_, hS1⟩
      unfold Sli.v Builtin.append_
      simp [ht0, ht1, hT.und w, hT.size w, Builtin.lenOf, hr0, h0, hn]
      have hfr1 := hfr0
      unfold Sli.v at hfr1
      rw [hr0] at hfr1
      simp at hfr1
      rw [hfr1]
      cases s.a with
      | none => simp
      | some p => simp [storeCells]
    · have hflat := e.flat_length r.xs
      have hoff : off + s.xs.length * e.sz + (e.flat r.xs).length ≤ cs.length := by
        rw [hflat, Nat.add_assoc, ← Nat.add_mul]
        exact Nat.le_trans (Nat.add_le_add_left (Nat.mul_le_mul_right _ hroom) _) hlen
      obtain ⟨w', hst, hb', hne, hg⟩ := run_storeCells (P := P) (e.flat r.xs) 0 (off + s.xs.length * e.sz) cs w (b := b) (T := e.T) hwo (by omega) hSc.get
      refine ⟨⟨⟨s.a, s.cap, s.xs ++ r.xs⟩, rfl⟩, w', ?_, ?_⟩
      · unfold Sli.v at hfr
        unfold Sli.v Builtin.append_
        simp [ht0, ht1, hT.und w, hT.size w, Builtin.lenOf, hroom, hfr, ha, addr_add, hst]
      · have hS' := hSc.put (o' := .cells (wrs cs (off + s.xs.length * e.sz + 0) (e.flat r.xs)).toArray e.T (0, 0)) hg hb' fun c o hcb hh => by rw [hne c hcb]; exact hh
        refine Sat.toOwn (b := b) (off := off) (cs := wrs cs (off + s.xs.length * e.sz + 0) (e.flat r.xs)) hS' ha (by simpa using hroom) (by rw [wrs_length]; exact hlen) ?_
        simp only [List.length_append, Nat.add_zero]
        rw [e.flat_append, ← hc, Nat.add_mul, ← hflat]
        exact wrs_take _ _ _ _ (by omega)
  · -- a new row
    have hneed : s.cap < s.xs.length + r.xs.length := by omega
    have hcb := cap_bound hneed
    have hsr : Rds (own e s :: L1) e s := Rds.own w hS1
    have hfs := run_firstCells (P := P) hsr hS1
    have hbig : ¬ (Builtin.nextslicecap (s.xs.length + r.xs.length) s.cap * info.bytes > 2 ^ 48) := by
      rw [hbytes]
      have := Nat.mul_le_mul_right bytes hcb
      have h48 : (2 : Nat) ^ 48 = 281474976710656 := by decide
      omega
    have hmax : ¬ (info.bytes = 0) := by rw [hbytes]; have := hT.pos; omega
    generalize hq : Question.appendCap (s.xs.length + r.xs.length) s.cap e.T = q
    have hforced : q.forced = false := by rw [← hq]; rfl
    generalize hnc : q.cut (w.tape w.drawn q) = nc
    have hnc2 : s.xs.length + r.xs.length ≤ nc := by rw [← hnc, ← hq]; simp only [Question.cut]; omega
    have hSd : Sat w.drew (Sl.own e s :: L1) := hS1.heap rfl rfl
    have hfs' := run_firstCells (P := P) hsr hSd
    have hfr' := run_firstCells (P := P) hr hSd.drop
    let row : List Value := e.flat s.xs ++ e.flat r.xs ++ (Builtin.zeroCells z.cells (nc - (s.xs.length + r.xs.length))).toList
    refine ⟨⟨⟨some ⟨w.heap.size, 0, none⟩, nc, s.xs ++ r.xs⟩, rfl⟩, w.drew.alloc (.cells row.toArray e.T (0, 0)), ?_, ?_⟩
    · unfold Sli.v at hfs' hfr'
      unfold Sli.v Builtin.append_
      simp [ht0, ht1, hT.und w, hT.size w, Builtin.lenOf, hroom, hinfo, hbig, hmax, hq, hforced, hnc, hfs', hfr', hzr, newRow, row]
      simp only [← List.append_toArray, Array.toArray_toList]
    · have hS2 : Sat (w.drew.alloc (.cells row.toArray e.T (0, 0))) (blk w.heap.size (.cells row.toArray e.T (0, 0)) :: Sl.own e s :: L1) :=
        hSd.new rfl (heap_new w.drew _) (heap_old w.drew _)
      have hlen : row.length = nc * e.sz := by
        simp only [row, List.length_append, e.flat_length, run_zeroCells, hz]
        rw [← Nat.add_mul, ← Nat.add_mul]; congr 1; omega
      refine Sat.toOwn (b := w.heap.size) (off := 0) (cs := row) hS2.swap.drop rfl (by simpa using hnc2) (by simp [hlen]) ?_
      simp only [List.drop_zero, row, e.flat_append, List.length_append]
      rw [List.take_append_of_le_length (by simp [e.flat_length, Nat.add_mul]), List.take_of_length_le (by simp [e.flat_length, Nat.add_mul])]
/-- xs[lo:hi]. -/
theorem run_slice {T el k : TypeId} {a : Option Addr} {len cap lo hi : Nat} (hT : ∀ w, (underlying T).run P w = .ok (.slice el) w) (hs : ∀ w, (sizeOf el).run P w = .ok k w) (h1 : lo ≤ hi) (h2 : hi ≤ cap) (w : World) :
    (Instr.sliceAt T (.slice a len cap) (some (.int .i64 lo)) (some (.int .i64 hi)) none).run P w = .ok (.slice (if cap = lo then a else a.map (·.add (lo * k))) (hi - lo) (cap - lo)) w := by
  have e1 : (0 : Int) ≤ (hi : Int) ∧ (hi : Int) ≤ (cap : Int) := by omega
  have e2 : (0 : Int) ≤ (lo : Int) ∧ (lo : Int) ≤ (hi : Int) := by omega
  simp [Instr.sliceAt, Instr.slice, Instr.sliceBounds, Instr.sliceBound, asIntOf, hT w, hs w, h1, h2]
theorem run_sliceHi {T el k : TypeId} {a : Option Addr} {len cap hi : Nat} (hT : ∀ w, (underlying T).run P w = .ok (.slice el) w) (hs : ∀ w, (sizeOf el).run P w = .ok k w) (h2 : hi ≤ cap) (w : World) :
    (Instr.sliceAt T (.slice a len cap) none (some (.int .i64 hi)) none).run P w = .ok (.slice a hi cap) w := by
  have e : (if cap = 0 then a else a.map (·.add (0 * k))) = a := by
    split
    · rfl
    · cases a <;> simp [Addr.add]
  simp only [Nat.zero_mul] at e
  simp [Instr.sliceAt, Instr.slice, Instr.sliceBounds, Instr.sliceBound, asIntOf, hT w, hs w, h2, e]
theorem run_sliceLo {T el k : TypeId} {a : Option Addr} {len cap lo : Nat} (hT : ∀ w, (underlying T).run P w = .ok (.slice el) w) (hs : ∀ w, (sizeOf el).run P w = .ok k w) (h1 : lo ≤ len) (w : World) :
    (Instr.sliceAt T (.slice a len cap) (some (.int .i64 lo)) none none).run P w = .ok (.slice (if cap = lo then a else a.map (·.add (lo * k))) (len - lo) (cap - lo)) w := by
  simp [Instr.sliceAt, Instr.slice, Instr.sliceBounds, Instr.sliceBound, asIntOf, hT w, hs w, h1]
theorem Runs.sliceHi {d : Option Tmp} {T el k : TypeId} {x y : Operand} {a : Option Addr} {len cap hi : Nat} {i : Int} (hT : ∀ w, (underlying T).run P w = .ok (.slice el) w) (hs : ∀ w, (sizeOf el).run P w = .ok k w)
    (hx : Env.ev E x = some (.slice a len cap)) (hy : Env.ev E y = some (.int .i64 i)) (hi' : i = (hi : Int)) (h2 : hi ≤ cap) :
    Runs P n E L ⟨d, .slice T x none (some y) none, ty, ps, af, gd⟩ (.slice a hi cap) := fun c w hA _ => by
  subst hi'
  have := run_sliceHi (P := P) (a := a) (len := len) hT hs h2 w
  simp [execOp, hA.ev hx, hA.ev hy, this]
theorem Runs.sliceLo {d : Option Tmp} {T el k : TypeId} {x y : Operand} {a : Option Addr} {len cap lo : Nat} {i : Int} (hT : ∀ w, (underlying T).run P w = .ok (.slice el) w) (hs : ∀ w, (sizeOf el).run P w = .ok k w)
    (hx : Env.ev E x = some (.slice a len cap)) (hy : Env.ev E y = some (.int .i64 i)) (hi' : i = (lo : Int)) (h2 : lo ≤ len) :
    Runs P n E L ⟨d, .slice T x (some y) none none, ty, ps, af, gd⟩ (.slice (if cap = lo then a else a.map (·.add (lo * k))) (len - lo) (cap - lo)) := fun c w hA _ => by
  subst hi'
  have := run_sliceLo (P := P) (a := a) (cap := cap) hT hs h2 w
  simp [execOp, hA.ev hx, hA.ev hy, this]
theorem Runs.slice {d : Option Tmp} {T el k : TypeId} {x y z : Operand} {a : Option Addr} {len cap lo hi : Nat} {i j : Int} (hT : ∀ w, (underlying T).run P w = .ok (.slice el) w) (hs : ∀ w, (sizeOf el).run P w = .ok k w)
    (hx : Env.ev E x = some (.slice a len cap)) (hy : Env.ev E y = some (.int .i64 i)) (hz : Env.ev E z = some (.int .i64 j)) (hi' : i = (lo : Int)) (hj : j = (hi : Int)) (h1 : lo ≤ hi) (h2 : hi ≤ cap) :
    Runs P n E L ⟨d, .slice T x (some y) (some z) none, ty, ps, af, gd⟩ (.slice (if cap = lo then a else a.map (·.add (lo * k))) (hi - lo) (cap - lo)) := fun c w hA _ => by
  subst hi'; subst hj
  have := run_slice (P := P) (a := a) (len := len) hT hs h1 h2 w
  simp [execOp, hA.ev hx, hA.ev hy, hA.ev hz, this]
/-- append(nil, make([]T, m)...), m above 0: room for m. -/
theorem RunsX.appendMake {α : Type} {d : Option Tmp} {T I : TypeId} {x y : Operand} {e : Enc α} {bytes : Nat} {m : Int} (hT : ElT P T e bytes) (hI : ∀ w, (underlying I).run P w = .ok (.int .i64) w)
    (hx : Env.ev E x = some (.slice none 0 0)) (hy : Env.ev E y = some (.int .i64 m)) (h0 : 0 < m) (hb : m * (bytes : Int) ≤ 281474976710656) :
    RunsX P n E L ⟨d, .call { callee := .builtin .append, args := #[x, y], argTypes := #[T, I] }, ty, ps, af, gd⟩ (fun q : { q : Option Addr × Nat // m ≤ (q.2 : Int) } => .slice q.1.1 m.toNat q.1.2) (fun q => own e ⟨q.1.1, q.1.2, []⟩ :: L) := fun a w hA hS => by
  obtain ⟨info, hbytes, hinfo⟩ := hT.byt
  obtain ⟨z, hz, hzr⟩ := hT.zero
  have hpos := hT.pos
  have hm : m ≤ 281474976710656 := by
    have : m * 1 ≤ m * (bytes : Int) := Int.mul_le_mul_of_nonneg_left (by omega) (by omega)
    omega
  obtain ⟨q, rfl⟩ : ∃ q : Nat, m = (q : Int) := ⟨m.toNat, by omega⟩
  have hwrap : IntKind.i64.wrap (q : Int) = (q : Int) := wrap_in (by omega)
  have hnext : Builtin.nextslicecap q 0 = q := by unfold Builtin.nextslicecap; rw [if_pos (by omega)]
  generalize hq : Question.appendCap q 0 e.T = qu
  have hforced : qu.forced = false := by rw [← hq]; rfl
  generalize hnc : qu.cut (w.tape w.drawn qu) = nc
  have hnc2 : q ≤ nc := by rw [← hnc, ← hq]; simp only [Question.cut]; omega
  have hb' : ¬ (281474976710656 < (q : Int) * (bytes : Int)) := by omega
  have hb'' : ¬ (281474976710656 < q * bytes) := by
    have : ((q * bytes : Nat) : Int) = (q : Int) * (bytes : Int) := by simp
    omega
  have hq0 : ¬ q = 0 := by omega
  have hSd : Sat w.drew L := hS.heap rfl rfl
  let zs : List Value := if q * e.sz = 0 then [] else (Builtin.zeroCells z.cells q).toList
  let row : List Value := zs ++ (Builtin.zeroCells z.cells (nc - q)).toList
  have hzlen : zs.length = q * e.sz := by
    simp only [zs]
    split
    · rename_i h; simp [h]
    · rw [run_zeroCells, hz]
  refine ⟨⟨(some ⟨w.heap.size, 0, none⟩, nc), by simpa using hnc2⟩, w.drew.alloc (.cells row.toArray e.T (0, 0)), ?_, ?_⟩
  · simp only [execOp, resolve, invoke, builtin, Builtin.append_]
    simp [hA.ev hx, hA.ev hy, hT.und w, hI w, hT.size w, asInt, asIntOf, hwrap, hinfo, hbytes, hb', hb'', hq0, hnext, hq, hforced, hnc, hzr, newRow, Builtin.firstCells]
    rw [if_neg (by omega), if_neg (by omega)]
    split
    · rename_i h; simp [row, zs, h]
    · rename_i h
      simp only [row, zs, if_neg h]
      simp only [← List.append_toArray, Array.toArray_toList]
  · have hS2 : Sat (w.drew.alloc (.cells row.toArray e.T (0, 0))) (blk w.heap.size (.cells row.toArray e.T (0, 0)) :: L) := hSd.new rfl (heap_new w.drew _) (heap_old w.drew _)
    refine Sat.toOwn (b := w.heap.size) (off := 0) (cs := row) hS2 rfl (by simp) ?_ (by simp [Enc.flat])
    simp only [row, List.length_append, hzlen, run_zeroCells, hz, Nat.zero_add]
    rw [← Nat.add_mul]
    exact Nat.mul_le_mul_right _ (by omega)
/-- make([]T, m): room for m. (What it holds is not told.) -/
theorem RunsX.makeSlice {α : Type} {d : Option Tmp} {T : TypeId} {x y : Operand} {e : Enc α} {bytes : Nat} {m : Nat} (hT : ElT P T e bytes)
    (hx : Env.ev E x = some (.int .i64 m)) (hy : Env.ev E y = some (.int .i64 m)) (hb : m * bytes ≤ 281474976710656) :
    RunsX P n E L ⟨d, .makeSlice T x y, ty, ps, af, gd⟩ (fun b => .slice (some ⟨b, 0, none⟩) m m) (fun b => own e ⟨some ⟨b, 0, none⟩, m, []⟩ :: L) := fun a w hA hS => by
  obtain ⟨info, hbytes, hinfo⟩ := hT.byt
  obtain ⟨z, hz, hzr⟩ := hT.zero
  have hpos := hT.pos
  have hm : m ≤ 281474976710656 := by
    have : m * 1 ≤ m * bytes := Nat.mul_le_mul_left _ (by omega)
    omega
  have hwrap : IntKind.i64.wrap (m : Int) = (m : Int) := wrap_in (by omega)
  have hb1 : ¬ (281474976710656 < (bytes : Int) * (m : Int)) := by
    have : ((m * bytes : Nat) : Int) = (bytes : Int) * (m : Int) := by simp [Int.mul_comm]
    omega
  let row : List Value := if m * e.sz = 0 then [] else ((Array.range (m * e.sz)).map fun i => z.cells[i % z.cells.size]!).toList
  have hrow : row.length = m * e.sz := by
    simp only [row]; split
    · rename_i h; simp [h]
    · simp
  refine ⟨w.heap.size, w.alloc (.cells row.toArray e.T (0, 0)), ?_, ?_⟩
  · have hrun : (execOp a.eval ⟨d, .makeSlice T x y, ty, ps, af, gd⟩).run P w = (do
        let zero ← if m * e.sz = 0 then pure #[] else do pure (← zeroValue e.T).cells
        let q ← newRow e.T ((Array.range (m * e.sz)).map fun i => zero[i % zero.size]!)
        pure (Next.value (.slice (some q) m m)) : Sem Next).run P w := by
      simp [execOp, Instr.makeSlice, hA.ev hx, hA.ev hy, hT.und w, hT.size w, asInt, asIntOf, hwrap, hinfo w, hbytes, hb1]
      rw [if_neg (by omega)]
      split <;> simp [newRow, hzr w]
    rw [hrun]
    by_cases h0 : m * e.sz = 0
    · have hr0 : row = [] := by simp only [row, if_pos h0]
      have hm0 : (Array.map (fun _ : Nat => (default : Value)) (Array.range 0)) = #[] := Array.eq_empty_of_size_eq_zero (by simp)
      simp [h0, newRow, hr0, hm0]
    · have hr0 : row.toArray = (Array.range (m * e.sz)).map fun i => z.cells[i % z.cells.size]! := by simp only [row, if_neg h0, Array.toArray_toList]
      rw [hr0]
      simp only [if_neg h0, Sem.run_bind, hzr w, Result.andThen_ok, Sem.run_pure, newRow, run_newObj]
      rfl
  · have hS2 : Sat (w.alloc (.cells row.toArray e.T (0, 0))) (blk w.heap.size (.cells row.toArray e.T (0, 0)) :: L) := hS.new rfl (heap_new w _) (heap_old w _)
    exact Sat.toOwn (b := w.heap.size) (off := 0) (cs := row) hS2 rfl (by simp) (by simp [hrow]) (by simp [Enc.flat])
/-- copy(out[k:], r): behind what is there. -/
theorem RunsX.copy {α : Type} {d : Option Tmp} {T : TypeId} {tys : Array TypeId} {x y : Operand} {e : Enc α} {bytes : Nat} {r : Sli α} {ys : List α} {b off k m dl dc : Nat} {L1 : List HP} (hT : ElT P T e bytes) (ht0 : tys[0]? = some T)
    (hx : Env.ev E x = some (.slice (some ⟨b, off + k * e.sz, none⟩) dl dc)) (hy : Env.ev E y = some r.v) (hm : Rem L (own e ⟨some ⟨b, off, none⟩, m, ys⟩) L1) (hr : Rds L1 e r) (hk : ys.length = k) (h1 : r.xs.length ≤ dl) (h2 : k + r.xs.length ≤ m) (h3 : 0 < m) :
    RunsX P n E L ⟨d, .call { callee := .builtin .copy, args := #[x, y], argTypes := tys }, ty, ps, af, gd⟩ (fun _ : Unit => .int .i64 (r.xs.length : Int)) (fun _ => own e ⟨some ⟨b, off, none⟩, m, ys ++ r.xs⟩ :: L1) := fun a w hA hS => by
  have hS1 := hm.sat hS
  have hfr := run_firstCells (P := P) hr hS1.drop
  have hwo : ∀ v ∈ e.flat r.xs, v.oneCell' = true := by
    intro v hv
    simp only [Enc.flat, List.mem_flatMap] at hv
    obtain ⟨q, _, hq⟩ := hv
    have := e.one q
    rw [List.all_eq_true] at this
    exact this v hq
  rcases hS1.own with ⟨h0, _, _⟩ | ⟨b', off', cs, ha, hl, hlen, hc, hSc⟩
  · simp at h0; omega
  · simp only [Option.some.injEq, Addr.mk.injEq, and_true] at ha
    obtain ⟨rfl, rfl⟩ := ha
    simp only at hl hlen hc
    have hflat := e.flat_length r.xs
    have hoff : off + k * e.sz + (e.flat r.xs).length ≤ cs.length := by
      rw [hflat, Nat.add_assoc, ← Nat.add_mul]
      exact Nat.le_trans (Nat.add_le_add_left (Nat.mul_le_mul_right _ h2) _) hlen
    obtain ⟨w', hst, hb', hne, hg⟩ := run_storeCells (P := P) (e.flat r.xs) 0 (off + k * e.sz) cs w (b := b) (T := e.T) hwo (by omega) hSc.get
    refine ⟨(), w', ?_, ?_⟩
    · unfold Sli.v at hfr hy
      have hmin : Nat.min r.xs.length dl = r.xs.length := Nat.min_eq_left h1
      simp [execOp, resolve, invoke, builtin, Builtin.copy_, hA.ev hx, hA.ev hy, ht0, hT.und w, hT.size w, Builtin.lenOf, hmin, hfr, hst, goInt]
    · have hS' := hSc.put (o' := .cells (wrs cs (off + k * e.sz + 0) (e.flat r.xs)).toArray e.T (0, 0)) hg hb' fun c o hcb hh => by rw [hne c hcb]; exact hh
      refine Sat.toOwn (b := b) (off := off) (cs := wrs cs (off + k * e.sz + 0) (e.flat r.xs)) hS' rfl (by simp only [List.length_append, hk]; exact h2) (by rw [wrs_length]; exact hlen) ?_
      simp only [List.length_append, Nat.add_zero]
      rw [e.flat_append, ← hc, Nat.add_mul, ← hflat, hk]
      exact wrs_take _ _ _ _ (by omega)
theorem wrs_sub : ∀ (vs cs : List Value) (off k m : Nat), k + vs.length ≤ m → ((wrs cs (off + k) vs).drop off).take m = wrs ((cs.drop off).take m) k vs
  | [], cs, off, k, m, _ => rfl
  | v :: vs, cs, off, k, m, h => by
    simp only [List.length_cons] at h
    simp only [wrs]
    rw [show off + k + 1 = off + (k + 1) by omega, wrs_sub vs _ _ _ _ (by omega)]
    congr 1
    rw [List.drop_set, if_neg (by omega), Nat.add_sub_cancel_left, List.take_set]
/-- An element, laid anew. -/
theorem wrs_set {α : Type} (e : Enc α) (xs : List α) (i : Nat) (z : α) (hi : i < xs.length) : wrs (e.flat xs) (i * e.sz) (e.f z) = e.flat (xs.set i z) := by
  have hl := e.flat_length xs
  have hle : i * e.sz + e.sz ≤ xs.length * e.sz := by rw [← Nat.succ_mul]; exact Nat.mul_le_mul_right _ hi
  rw [wrs_eq _ _ _ (by rw [e.len, hl]; exact hle), List.set_eq_take_append_cons_drop, if_pos hi, e.len]
  have h1 : e.flat xs = e.flat (xs.take i) ++ e.flat (xs.drop i) := by rw [← e.flat_append, List.take_append_drop]
  have h2 : (e.flat (xs.take i)).length = i * e.sz := by rw [e.flat_length, List.length_take, Nat.min_eq_left (by omega)]
  have h3 : xs.drop i = xs[i] :: xs.drop (i + 1) := List.drop_eq_getElem_cons hi
  have t1 : (e.flat xs).take (i * e.sz) = e.flat (xs.take i) := by rw [h1, ← h2]; simp
  have t2 : (e.flat xs).drop (i * e.sz + e.sz) = e.flat (xs.drop (i + 1)) := by
    have h4 : e.flat xs = e.flat (xs.take (i + 1)) ++ e.flat (xs.drop (i + 1)) := by rw [← e.flat_append, List.take_append_drop]
    have h5 : (e.flat (xs.take (i + 1))).length = i * e.sz + e.sz := by rw [e.flat_length, List.length_take, Nat.min_eq_left (by omega), Nat.succ_mul]
    rw [h4, ← h5]; simp
  rw [t1, t2, e.flat_append]
  simp [Enc.flat]
theorem Acts.storeE {α : Type} {T : TypeId} {x y : Operand} {e : Enc α} {s : Sli α} {b off i : Nat} {z : α} {v : Value} {L1 : List HP} (hx : Env.ev E x = some (.pointer (some ⟨b, off + i * e.sz, none⟩)))
    (hy : Env.ev E y = some v) (hv : v.cells = (e.f z).toArray) (hT : ∀ w, (sizeOf T).run P w = .ok e.sz w) (ha : s.a = some ⟨b, off, none⟩) (hi : i < s.xs.length) (hm : Rem L (own e s) L1) :
    Acts P n E L ⟨none, .store T x y, ty, ps, af, gd⟩ (own e { s with xs := s.xs.set i z } :: L1) := fun a w hA hS => by
  rcases (hm.sat hS).own with ⟨_, h0, _⟩ | ⟨b', off', cs, ha', hl, hlen, hc, hSc⟩
  · rw [h0] at hi; simp at hi
  · rw [ha] at ha'; cases ha'
    have hle : i * e.sz + e.sz ≤ s.xs.length * e.sz := by rw [← Nat.succ_mul]; exact Nat.mul_le_mul_right _ hi
    have hle2 : s.xs.length * e.sz ≤ s.cap * e.sz := Nat.mul_le_mul_right _ hl
    obtain ⟨w', hr, hb, hne, hg⟩ := run_storeCells (P := P) (e.f z) 0 (off + i * e.sz) cs w (b := b) (T := e.T) (by have := e.one z; simpa using this) (by rw [e.len]; omega) hSc.get
    have hS' := hSc.put hg hb fun c o hcb hh => by rw [hne c hcb]; exact hh
    refine ⟨w', ?_, Sat.toOwn (b := b) (off := off) hS' ha (by simpa using hl) (by rw [wrs_length]; exact hlen) ?_⟩
    · simp [execOp, hA.ev hx, hA.ev hy, Instr.storeAt, Instr.sureAddr, storeVar, hT w, hv, hr, e.len]
    · simp only [List.length_set, Nat.add_zero]
      rw [← wrs_set e s.xs i z hi, ← hc]
      exact wrs_sub _ _ _ _ _ (by rw [e.len]; exact hle)
end
end Go.Proofs.Sl

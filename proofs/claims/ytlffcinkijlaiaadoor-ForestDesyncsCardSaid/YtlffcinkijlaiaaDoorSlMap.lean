/- The rules of the walk: maps whose keys are whole numbers. -/
import Derived.Test.YtlffcinkijlaiaaDoorSlRun
namespace Go.Proofs.Sl
open Go

/-- An entry: key, value, when it was born. -/
structure Ment where
  key : Int
  val : Value
  born : Nat
def Ment.ent (e : Ment) : MapEntry := { key := .int .i64 e.key, val := e.val, born := e.born }
def imap (r : Nat) (M : List Ment) (clock : Nat) : HP := blk r (.map (M.map Ment.ent).toArray clock)
theorem UpdL.imap {r : Nat} {M M' : List Ment} {c c' : Nat} {L : List HP} : UpdL (Sl.imap r M c :: L) r (.map (M.map Ment.ent).toArray c) (.map (M'.map Ment.ent).toArray c') (Sl.imap r M' c' :: L) := .here
theorem Has.imap {r : Nat} {M : List Ment} {c : Nat} {L : List HP} : Has (Sl.imap r M c :: L) r (.map (M.map Ment.ent).toArray c) := fun _ s => s.get
/-- Where a key stands. -/
def midx : List Ment → Int → Option Nat
  | [], _ => none
  | e :: M, k => if k = e.key then some 0 else (midx M k).map (· + 1)
def mget : List Ment → Int → Option Value
  | [], _ => none
  | e :: M, k => if k = e.key then some e.val else mget M k
theorem mget_eq : ∀ (M : List Ment) (k : Int), mget M k = (midx M k).bind fun j => (M[j]?).map Ment.val
  | [], k => rfl
  | e :: M, k => by
    simp only [mget, midx]
    split
    · rfl
    · rw [mget_eq M k]
      cases midx M k <;> simp
/-- A key's new value. -/
def mset (M : List Ment) (k : Int) (v : Value) (clock : Nat) : List Ment := match midx M k with
  | some j => M.modify j fun e => { e with val := v }
  | none => M ++ [⟨k, v, clock⟩]
def mclock (M : List Ment) (k : Int) (clock : Nat) : Nat := match midx M k with
  | some _ => clock
  | none => clock + 1
def mdel (M : List Ment) (k : Int) : List Ment := match midx M k with
  | some j => M.eraseIdx j
  | none => M
theorem findNow_ent : ∀ (M : List Ment) (k : Int) (i : Nat), Instr.findNow (.int .i64) (.int .i64 k) (M.map Ment.ent) i = some ((midx M k).bind fun j => (M[j]?).map fun e => (i + j, e.val))
  | [], k, i => rfl
  | e :: M, k, i => by
    simp only [List.map_cons, Instr.findNow, Ment.ent, Instr.sameNow, if_true, midx]
    by_cases h : k = e.key
    · simp [h]
    · have : (k == e.key) = false := by simp [h]
      simp only [this, if_neg h]
      have ih := findNow_ent M k (i + 1)
      rw [show (M.map Ment.ent) = M.map Ment.ent from rfl] at ih
      rw [ih]
      cases midx M k with
      | none => simp
      | some j => simp [Nat.add_assoc, Nat.add_comm 1 j]

theorem map_eraseIdx {α β : Type} (f : α → β) : ∀ (l : List α) (i : Nat), (l.eraseIdx i).map f = (l.map f).eraseIdx i
  | [], _ => rfl
  | _ :: _, 0 => rfl
  | a :: l, i + 1 => by simp [map_eraseIdx f l i]
section
variable {P : Program} {n : Nat} {Q : Exit → Act → World → Prop} {E : Env} {L : List HP} {ops : Array Oper} {rest : List Oper}
variable {ty : TypeId} {ps : String} {af : Array Edge} {gd : Option (Nat × Bool)}
/-- What a map type with whole numbers as keys is: its elements' type and zero value. -/
structure MapT (P : Program) (T kt et : TypeId) (z : Value) : Prop where
  map : ∀ w, (underlying T).run P w = .ok (.map kt et) w
  key : ∀ w, (underlying kt).run P w = .ok (.int .i64) w
  zero : ∀ w, (zeroValue et).run P w = .ok z w
theorem run_checkKey' {kt : TypeId} (hk : ∀ w, (underlying kt).run P w = .ok (.int .i64) w) (b : Bool) (m : Nat) (k : Int) (w : World) : (Instr.checkKey b (m + 1) kt (.int .i64 k)).run P w = .ok () w := by
  simp [Instr.checkKey, hk w]
theorem run_checkKey {kt : TypeId} (hk : ∀ w, (underlying kt).run P w = .ok (.int .i64) w) (b : Bool) (k : Int) (w : World) : (Instr.checkKey b 10000 kt (.int .i64 k)).run P w = .ok () w := run_checkKey' hk b 9999 k w
theorem run_findKey {kt : TypeId} (hk : ∀ w, (underlying kt).run P w = .ok (.int .i64) w) (M : List Ment) (k : Int) (w : World) :
    (Instr.findKey kt (.int .i64 k) (M.map Ment.ent)).run P w = .ok ((midx M k).bind fun j => (M[j]?).map fun e => (j, e.val)) w := by
  have := findNow_ent M k 0
  simp only [Nat.zero_add] at this
  simp [Instr.findKey, hk w, this]
theorem run_getObj {w : World} {r : Nat} {es : Array MapEntry} {c : Nat} (h : w.heap[r]? = some (.map es c)) : (getObj r).run P w = .ok (.map es c) w := by
  simp [getObj, Sem.run, h]
theorem midx_lt : ∀ {M : List Ment} {k : Int} {j : Nat}, midx M k = some j → j < M.length
  | [], k, j, h => by simp [midx] at h
  | e :: M, k, j, h => by
    simp only [midx] at h
    split at h
    · simp at h; subst h; simp
    · cases hm : midx M k with
      | none => simp [hm] at h
      | some i => simp [hm] at h; have := midx_lt hm; simp; omega
theorem Runs.lookup {d : Option Tmp} {T kt et : TypeId} {z : Value} {x y : Operand} {r c : Nat} {M : List Ment} {k : Int} (hT : MapT P T kt et z) (hx : Env.ev E x = some (.map (some r)))
    (hy : Env.ev E y = some (.int .i64 k)) (hm : Has L r (.map (M.map Ment.ent).toArray c)) : Runs P n E L ⟨d, .lookup T x y false, ty, ps, af, gd⟩ ((mget M k).getD z) := fun a w hA hS => by
  have hfk := run_findKey hT.key M k w
  simp only [execOp, hA.ev hx, hA.ev hy, Instr.lookup, Sem.run_bind, hT.map w, Result.andThen_ok, run_getObj (hm w hS), Sem.run_pure, run_checkKey hT.key, hfk]
  rw [mget_eq]
  cases hm : midx M k with
  | none => simp [hT.zero w]
  | some j => have := midx_lt hm; simp [this]
theorem Runs.lookupOk {d : Option Tmp} {T kt et : TypeId} {z : Value} {x y : Operand} {r c : Nat} {M : List Ment} {k : Int} (hT : MapT P T kt et z) (hx : Env.ev E x = some (.map (some r)))
    (hy : Env.ev E y = some (.int .i64 k)) (hm : Has L r (.map (M.map Ment.ent).toArray c)) : Runs P n E L ⟨d, .lookup T x y true, ty, ps, af, gd⟩ (.tuple #[(mget M k).getD z, .bool (mget M k).isSome]) := fun a w hA hS => by
  have hfk := run_findKey hT.key M k w
  simp only [execOp, hA.ev hx, hA.ev hy, Instr.lookup, Sem.run_bind, hT.map w, Result.andThen_ok, run_getObj (hm w hS), Sem.run_pure, run_checkKey hT.key, hfk]
  rw [mget_eq]
  cases hm : midx M k with
  | none => simp [hT.zero w]
  | some j => have := midx_lt hm; simp [this]
theorem Runs.lenMap {d : Option Tmp} {T kt et : TypeId} {z : Value} {x : Operand} {tys : Array TypeId} {r c : Nat} {M : List Ment} (hT : MapT P T kt et z) (ht : tys[0]? = some T) (hx : Env.ev E x = some (.map (some r)))
    (hm : Has L r (.map (M.map Ment.ent).toArray c)) : Runs P n E L ⟨d, .call { callee := .builtin .len, args := #[x], argTypes := tys }, ty, ps, af, gd⟩ (.int .i64 (M.length : Int)) := fun a w hA hS => by
  simp [execOp, resolve, invoke, builtin, Builtin.len_, hA.ev hx, ht, hT.map w, run_getObj (hm w hS), goInt]
theorem Runs.lenSlice {d : Option Tmp} {T e : TypeId} {x : Operand} {tys : Array TypeId} {p : Option Addr} {l c : Nat} (hT : ∀ w, (underlying T).run P w = .ok (.slice e) w) (ht : tys[0]? = some T) (hx : Env.ev E x = some (.slice p l c)) :
    Runs P n E L ⟨d, .call { callee := .builtin .len, args := #[x], argTypes := tys }, ty, ps, af, gd⟩ (.int .i64 (l : Int)) := fun a w hA hS => by
  simp [execOp, resolve, invoke, builtin, Builtin.len_, hA.ev hx, ht, hT w, goInt]
theorem Runs.capSlice {d : Option Tmp} {T e : TypeId} {x : Operand} {tys : Array TypeId} {p : Option Addr} {l c : Nat} (hT : ∀ w, (underlying T).run P w = .ok (.slice e) w) (ht : tys[0]? = some T) (hx : Env.ev E x = some (.slice p l c)) :
    Runs P n E L ⟨d, .call { callee := .builtin .cap, args := #[x], argTypes := tys }, ty, ps, af, gd⟩ (.int .i64 (c : Int)) := fun a w hA hS => by
  simp [execOp, resolve, invoke, builtin, Builtin.cap_, hA.ev hx, ht, hT w, goInt]

/-! ### writes -/
theorem setObj_heap {w : World} {r : Nat} {es : Array MapEntry} {c : Nat} (o : Obj) (h : w.heap[r]? = some (.map es c)) :
    (setObj r o).run P w = .ok () { w with heap := w.heap.setIfInBounds r o } ∧ (w.heap.setIfInBounds r o)[r]? = some o ∧ ∀ (k : Nat), k ≠ r → (w.heap.setIfInBounds r o)[k]? = w.heap[k]? := by
  refine ⟨by simp [setObj, Sem.run, h], ?_, fun k hk => ?_⟩
  · have hr : r < w.heap.size := by
      rcases Nat.lt_or_ge r w.heap.size with h' | h'
      · exact h'
      · simp [Array.getElem?_eq_none h'] at h
    simp [hr]
  · simp [Ne.symm hk]
theorem Acts.mapUpdate {T kt et : TypeId} {z : Value} {x y u : Operand} {r c : Nat} {M : List Ment} {k : Int} {v : Value} {L' : List HP} (hT : MapT P T kt et z) (hx : Env.ev E x = some (.map (some r)))
    (hy : Env.ev E y = some (.int .i64 k)) (hu : Env.ev E u = some v) (hm : UpdL L r (.map (M.map Ment.ent).toArray c) (.map ((mset M k v c).map Ment.ent).toArray (mclock M k c)) L') :
    Acts P n E L ⟨none, .mapUpdate T x y u, ty, ps, af, gd⟩ L' := fun a w hA hS => by
  have hr := hm.has w hS
  have hfk := run_findKey hT.key M k w
  simp only [execOp, hA.ev hx, hA.ev hy, hA.ev hu, Instr.mapUpdate, Sem.run_bind, hT.map w, Result.andThen_ok, run_getObj hr, run_checkKey hT.key, hfk]
  cases hi : midx M k with
  | none =>
    obtain ⟨h1, h2, h3⟩ := setObj_heap (P := P) (.map (((M.map Ment.ent).toArray).push { key := .int .i64 k, val := v, born := c }) (c + 1)) hr
    refine ⟨_, by simp only [Option.bind_none]; rw [h1]; rfl, ?_⟩
    have e : Obj.map ((mset M k v c).map Ment.ent).toArray (mclock M k c) = .map (((M.map Ment.ent).toArray).push { key := .int .i64 k, val := v, born := c }) (c + 1) := by
      simp [mset, mclock, hi, Ment.ent]
    rw [e] at hm
    exact hm.sat hS rfl h2 fun b o hb e => by show (w.heap.setIfInBounds r _)[b]? = _; rw [h3 b hb]; exact e
  | some i =>
    have hlt := midx_lt hi
    have hkey : M[i].key = k := by
      clear hm hr hfk
      induction M generalizing i with
      | nil => simp at hlt
      | cons e M ih =>
        simp only [midx] at hi
        split at hi
        · rename_i h; simp at hi; subst hi; simpa using h.symm
        · cases hm : midx M k with
          | none => simp [hm] at hi
          | some i' => simp [hm] at hi; subst hi; simpa using ih i' hm (midx_lt hm)
    obtain ⟨h1, h2, h3⟩ := setObj_heap (P := P) (.map (((M.map Ment.ent).toArray).modify i fun e => { e with key := .int .i64 k, val := v }) c) hr
    have hstay : (Instr.keyThatStays (.int .i64 k) (.int .i64 k)).run P w = .ok (.int .i64 k) w := by
      simp [Instr.keyThatStays, Instr.sameBits]
    have hk0 : (((M.map Ment.ent).toArray[i]?).map (·.key)).getD (.int .i64 k) = .int .i64 k := by simp [hlt, Ment.ent, hkey]
    refine ⟨_, by simp only [Option.bind_some, List.getElem?_eq_getElem hlt, Option.map_some, hk0, Sem.run_bind, hstay, Result.andThen_ok, h1]; rfl, ?_⟩
    have e : Obj.map ((mset M k v c).map Ment.ent).toArray (mclock M k c) = .map (((M.map Ment.ent).toArray).modify i fun e => { e with key := .int .i64 k, val := v }) c := by
      simp only [mset, mclock, hi]
      congr 1
      apply Array.ext
      · simp
      · intro q hq1 hq2
        simp [List.getElem_modify]
        split
        · rename_i h; subst h; simp [Ment.ent, hkey]
        · rfl
    rw [e] at hm
    exact hm.sat hS rfl h2 fun b o hb e => by show (w.heap.setIfInBounds r _)[b]? = _; rw [h3 b hb]; exact e
theorem RunsX.delete {d : Option Tmp} {T kt et : TypeId} {z : Value} {x y : Operand} {tys : Array TypeId} {r c : Nat} {M : List Ment} {k : Int} {L' : List HP} (hT : MapT P T kt et z) (ht : tys[0]? = some T) (hx : Env.ev E x = some (.map (some r)))
    (hy : Env.ev E y = some (.int .i64 k)) (hm : UpdL L r (.map (M.map Ment.ent).toArray c) (.map ((mdel M k).map Ment.ent).toArray c) L') :
    RunsX P n E L ⟨d, .call { callee := .builtin .delete, args := #[x, y], argTypes := tys }, ty, ps, af, gd⟩ (fun _ : Unit => .tuple #[]) (fun _ => L') := fun a w hA hS => by
  have hr := hm.has w hS
  have hfk := run_findKey hT.key M k w
  cases hi : midx M k with
  | none =>
    obtain ⟨h1, h2, h3⟩ := setObj_heap (P := P) (.map (M.map Ment.ent).toArray c) hr
    refine ⟨(), { w with heap := w.heap.setIfInBounds r (.map (M.map Ment.ent).toArray c) }, ?_, ?_⟩
    · simp [execOp, resolve, invoke, builtin, Builtin.delete_, hA.ev hx, hA.ev hy, ht, hT.map w, run_getObj hr, run_checkKey hT.key, hfk, hi, h1]
    · have e : mdel M k = M := by simp [mdel, hi]
      rw [e] at hm
      exact hm.sat hS rfl h2 fun b o hb e => by show (w.heap.setIfInBounds r _)[b]? = _; rw [h3 b hb]; exact e
  | some i =>
    have hlt := midx_lt hi
    obtain ⟨h1, h2, h3⟩ := setObj_heap (P := P) (.map ((M.map Ment.ent).eraseIdx i).toArray c) hr
    refine ⟨(), { w with heap := w.heap.setIfInBounds r (.map ((M.map Ment.ent).eraseIdx i).toArray c) }, ?_, ?_⟩
    · simp [execOp, resolve, invoke, builtin, Builtin.delete_, hA.ev hx, hA.ev hy, ht, hT.map w, run_getObj hr, run_checkKey hT.key, hfk, hi, hlt, h1]
    · have e : (mdel M k).map Ment.ent = (M.map Ment.ent).eraseIdx i := by
        simp only [mdel, hi, map_eraseIdx]
      rw [e] at hm
      exact hm.sat hS rfl h2 fun b o hb e => by show (w.heap.setIfInBounds r _)[b]? = _; rw [h3 b hb]; exact e
end
end Go.Proofs.Sl
namespace Go.Proofs.Sl
open Go
section
variable {P : Program} {n : Nat} {Q : Exit → Act → World → Prop} {E : Env} {L : List HP} {ops : Array Oper} {rest : List Oper}
variable {ty : TypeId} {ps : String} {af : Array Edge} {gd : Option (Nat × Bool)}
theorem Runs.lookupv {d : Option Tmp} {T kt et : TypeId} {z v : Value} {x y : Operand} {r c : Nat} {M : List Ment} {k : Int} (hT : MapT P T kt et z) (hx : Env.ev E x = some (.map (some r)))
    (hy : Env.ev E y = some (.int .i64 k)) (hm : Has L r (.map (M.map Ment.ent).toArray c)) (hv : (mget M k).getD z = v) : Runs P n E L ⟨d, .lookup T x y false, ty, ps, af, gd⟩ v := by
  subst hv; exact Runs.lookup hT hx hy hm
section nils
variable {d : Option Tmp} {T T' e : TypeId} {x : Operand}
theorem eqIn_p0 (hT : ∀ w, (underlying T).run P w = .ok (.pointer e) w) (k : Nat) (w : World) : (Op.equalIn (k + 1) T (.pointer none) (.pointer none)).run P w = .ok true w := by
  simp [Op.equalIn, hT w]
theorem eqIn_p1 (hT : ∀ w, (underlying T).run P w = .ok (.pointer e) w) (k : Nat) (p : Addr) (w : World) : (Op.equalIn (k + 1) T (.pointer (some p)) (.pointer none)).run P w = .ok false w := by
  simp [Op.equalIn, hT w]
theorem eqIn_i0 {ms : Array (String × TypeId)} (hT : ∀ w, (underlying T).run P w = .ok (.interface ms) w) (k : Nat) (w : World) : (Op.equalIn (k + 1) T .nilIface .nilIface).run P w = .ok true w := by
  simp [Op.equalIn, hT w]
theorem eqIn_i1 {ms : Array (String × TypeId)} (hT : ∀ w, (underlying T).run P w = .ok (.interface ms) w) (k : Nat) (t : TypeId) (v : Value) (w : World) : (Op.equalIn (k + 1) T (.iface t v) .nilIface).run P w = .ok false w := by
  simp [Op.equalIn, hT w]
theorem eqIn_b (hT : ∀ w, (underlying T).run P w = .ok .bool w) (k : Nat) (a b : Bool) (w : World) : (Op.equalIn (k + 1) T (.bool a) (.bool b)).run P w = .ok (a == b) w := by
  simp [Op.equalIn, hT w]
theorem run_eql {y : Operand} {u v : Value} {r : Bool} (hx : Env.ev E x = some u) (hy : Env.ev E y = some v) (hg : ∀ w, (eqGuard .eql T x y u v).run P w = .ok () w) (hb : binOp .eql T u v = do pure (.bool (← Op.equal T u v)))
    (h : ∀ w, (Op.equalIn (9999 + 1) T u v).run P w = .ok r w) : Runs P n E L ⟨d, .binOp .eql T x y T', ty, ps, af, gd⟩ (.bool r) := fun a w hA _ => by
  have h' : (Op.equal T u v).run P w = .ok r w := h w
  simp [execOp, hA.ev hx, hA.ev hy, hg w, hb, h']
theorem run_neq {y : Operand} {u v : Value} {r : Bool} (hx : Env.ev E x = some u) (hy : Env.ev E y = some v) (hg : ∀ w, (eqGuard .neq T x y u v).run P w = .ok () w) (hb : binOp .neq T u v = do pure (.bool (!(← Op.equal T u v))))
    (h : ∀ w, (Op.equalIn (9999 + 1) T u v).run P w = .ok r w) : Runs P n E L ⟨d, .binOp .neq T x y T', ty, ps, af, gd⟩ (.bool (!r)) := fun a w hA _ => by
  have h' : (Op.equal T u v).run P w = .ok r w := h w
  simp [execOp, hA.ev hx, hA.ev hy, hg w, hb, h']
theorem Runs.eqp0 (hT : ∀ w, (underlying T).run P w = .ok (.pointer e) w) (hx : Env.ev E x = some (.pointer none)) : Runs P n E L ⟨d, .binOp .eql T x (.const (.pointer none)) T', ty, ps, af, gd⟩ (.bool true) :=
  run_eql hx rfl (fun _ => rfl) rfl (eqIn_p0 hT 9999)
theorem Runs.eqp1 {p : Addr} (hT : ∀ w, (underlying T).run P w = .ok (.pointer e) w) (hx : Env.ev E x = some (.pointer (some p))) : Runs P n E L ⟨d, .binOp .eql T x (.const (.pointer none)) T', ty, ps, af, gd⟩ (.bool false) :=
  run_eql hx rfl (fun _ => rfl) rfl (eqIn_p1 hT 9999 p)
theorem Runs.nep0 (hT : ∀ w, (underlying T).run P w = .ok (.pointer e) w) (hx : Env.ev E x = some (.pointer none)) : Runs P n E L ⟨d, .binOp .neq T x (.const (.pointer none)) T', ty, ps, af, gd⟩ (.bool false) :=
  run_neq hx rfl (fun _ => rfl) rfl (eqIn_p0 hT 9999)
theorem Runs.nep1 {p : Addr} (hT : ∀ w, (underlying T).run P w = .ok (.pointer e) w) (hx : Env.ev E x = some (.pointer (some p))) : Runs P n E L ⟨d, .binOp .neq T x (.const (.pointer none)) T', ty, ps, af, gd⟩ (.bool true) :=
  run_neq hx rfl (fun _ => rfl) rfl (eqIn_p1 hT 9999 p)
variable {ms : Array (String × TypeId)}
theorem Runs.eqi0 (hT : ∀ w, (underlying T).run P w = .ok (.interface ms) w) (hx : Env.ev E x = some .nilIface) : Runs P n E L ⟨d, .binOp .eql T x (.const .nilIface) T', ty, ps, af, gd⟩ (.bool true) :=
  run_eql hx rfl (fun _ => by simp [eqGuard]) rfl (eqIn_i0 hT 9999)
theorem Runs.eqi1 {t : TypeId} {v : Value} (hT : ∀ w, (underlying T).run P w = .ok (.interface ms) w) (hx : Env.ev E x = some (.iface t v)) : Runs P n E L ⟨d, .binOp .eql T x (.const .nilIface) T', ty, ps, af, gd⟩ (.bool false) :=
  run_eql hx rfl (fun _ => rfl) rfl (eqIn_i1 hT 9999 t v)
theorem Runs.nei0 (hT : ∀ w, (underlying T).run P w = .ok (.interface ms) w) (hx : Env.ev E x = some .nilIface) : Runs P n E L ⟨d, .binOp .neq T x (.const .nilIface) T', ty, ps, af, gd⟩ (.bool false) :=
  run_neq hx rfl (fun _ => by simp [eqGuard]) rfl (eqIn_i0 hT 9999)
theorem Runs.nei1 {t : TypeId} {v : Value} (hT : ∀ w, (underlying T).run P w = .ok (.interface ms) w) (hx : Env.ev E x = some (.iface t v)) : Runs P n E L ⟨d, .binOp .neq T x (.const .nilIface) T', ty, ps, af, gd⟩ (.bool true) :=
  run_neq hx rfl (fun _ => rfl) rfl (eqIn_i1 hT 9999 t v)
theorem Runs.eqb {y : Operand} {a b : Bool} (hT : ∀ w, (underlying T).run P w = .ok .bool w) (hx : Env.ev E x = some (.bool a)) (hy : Env.ev E y = some (.bool b)) :
    Runs P n E L ⟨d, .binOp .eql T x y T', ty, ps, af, gd⟩ (.bool (a == b)) := run_eql hx hy (fun _ => rfl) rfl (eqIn_b hT 9999 a b)
theorem Runs.neb {y : Operand} {a b : Bool} (hT : ∀ w, (underlying T).run P w = .ok .bool w) (hx : Env.ev E x = some (.bool a)) (hy : Env.ev E y = some (.bool b)) :
    Runs P n E L ⟨d, .binOp .neq T x y T', ty, ps, af, gd⟩ (.bool (!(a == b))) := run_neq hx hy (fun _ => rfl) rfl (eqIn_b hT 9999 a b)
end nils
end
end Go.Proofs.Sl

/- The plain side: states, orders, forests as lists; no memory. -/
namespace Go.Proofs.Sl

/-- A rectangle; a child. -/
structure Rc where
  x : Int
  y : Int
  w : Int
  h : Int
structure Ch where
  id : Int
  x : Int
  y : Int
/-- A state. -/
structure PSt where
  at_ : Bool
  bu : Int
  da : List Rc
  fr : List Int
  inp : Bool
  all : Bool
  re : List Rc
  ord : Bool
  ol : List Int
  pl : List Ch
def PSt.zero : PSt := ⟨false, 0, [], [], false, false, [], false, [], []⟩
def PSt.first : PSt := ⟨false, 0, [], [], false, true, [], false, [0], []⟩
def PSt.none (s : PSt) : Bool := !s.at_ && s.da.length == 0 && s.fr.length == 0 && !s.inp && !s.ord && s.pl.length == 0
/-- A child's place is put. -/
def put : List Ch → Ch → List Ch
  | [], c => [c]
  | d :: l, c => if d.id = c.id then c :: l else d :: put l c
theorem put_step {xs : List Ch} {c : Ch} {i : Nat} (h : put xs c = xs.take i ++ put (xs.drop i) c) (hi : i < xs.length) (hne : ¬ xs[i].id = c.id) : put xs c = xs.take (i + 1) ++ put (xs.drop (i + 1)) c := by
  rw [h, List.drop_eq_getElem_cons hi, put, if_neg hne, List.take_succ_eq_append_getElem hi, List.append_assoc]; rfl
theorem put_found {xs : List Ch} {c : Ch} {i : Nat} (h : put xs c = xs.take i ++ put (xs.drop i) c) (hi : i < xs.length) (he : xs[i].id = c.id) : put xs c = xs.set i c := by
  rw [h, List.drop_eq_getElem_cons hi, put, if_pos he, List.set_eq_take_append_cons_drop, if_pos hi]
theorem put_end {xs : List Ch} {c : Ch} {i : Nat} (h : put xs c = xs.take i ++ put (xs.drop i) c) (hi : xs.length ≤ i) : put xs c = xs ++ [c] := by
  rw [h, List.drop_of_length_le hi, List.take_of_length_le hi]; rfl
theorem put_length (xs : List Ch) (c : Ch) : (put xs c).length ≤ xs.length + 1 := by
  induction xs with
  | nil => simp [put]
  | cons d l ih => simp only [put]; split <;> simp; omega
def puts (a b : List Ch) : List Ch := b.foldl put a
theorem puts_take (a b : List Ch) (i : Nat) (h : i < b.length) : puts a (b.take (i + 1)) = put (puts a (b.take i)) b[i] := by
  unfold puts
  rw [List.take_succ_eq_append_getElem h, List.foldl_append]; rfl
theorem puts_length (a b : List Ch) : (puts a b).length ≤ a.length + b.length := by
  unfold puts
  induction b generalizing a with
  | nil => simp
  | cons d l ih => have := ih (put a d); have := put_length a d; simp only [List.foldl_cons, List.length_cons]; omega
def PSt.merge (a b : PSt) : PSt :=
  { at_ := a.at_ || b.at_, bu := if b.at_ then b.bu else a.bu, da := a.da ++ b.da, fr := a.fr ++ b.fr, inp := a.inp || b.inp, all := if b.inp then b.all else a.all,
    re := if b.inp then b.re else a.re, ord := a.ord || b.ord, ol := if b.ord then b.ol else a.ol, pl := puts a.pl b.pl }
def PSt.apply (a b : PSt) : PSt := { a.merge b with at_ := false, da := [], inp := false, ord := false }
def drop (l : List Int) (id : Int) : List Int := l.filter fun x => decide (x ≠ id)
def top (l : List Int) (id : Int) : List Int := drop l id ++ [id]
/-- A surface. -/
structure Sur where
  id : Int
  parent : Int
  sync : Bool
  pe : PSt
  ca : PSt
  cu : PSt
/-- Whom a number names. -/
def get : List Sur → Int → Option Sur
  | [], _ => .none
  | s :: L, k => if k = s.id then some s else get L k
/-- The first with a number, turned. -/
def set : List Sur → Int → Sur → List Sur
  | [], _, _ => []
  | s :: L, k, t => if k = s.id then t :: L else s :: set L k t
theorem get_id : ∀ {L : List Sur} {k : Int} {s : Sur}, get L k = some s → s.id = k
  | [], k, s, h => by simp [get] at h
  | t :: L, k, s, h => by
    simp only [get] at h
    split at h
    · simp at h; subst h; rename_i e; exact e.symm
    · exact get_id h
theorem get_mem : ∀ {L : List Sur} {k : Int} {s : Sur}, get L k = some s → s ∈ L
  | [], k, s, h => by simp [get] at h
  | t :: L, k, s, h => by
    simp only [get] at h
    split at h
    · simp at h; subst h; exact List.mem_cons_self ..
    · exact List.mem_cons_of_mem _ (get_mem h)
theorem get_set {k : Int} : ∀ {L : List Sur} {s : Sur}, get L k = some s → ∀ t, t.id = k → ∀ j, get (set L k t) j = if j = k then some t else get L j
  | [], s, h, _, _, _ => by simp [get] at h
  | u :: L, s, h, t, e, j => by
    simp only [get] at h
    simp only [set]
    split at h
    · rename_i e'
      rw [if_pos e']
      simp only [get, e]
      by_cases h1 : j = k
      · rw [if_pos h1, if_pos h1]
      · rw [if_neg h1, if_neg h1, if_neg (by rw [← e']; exact h1)]
    · rename_i e'
      simp only [if_neg e', get]
      rw [get_set h t e j]
      by_cases h1 : j = u.id
      · rw [if_pos h1, if_pos h1, if_neg (by rintro rfl; exact e' h1)]
      · rw [if_neg h1, if_neg h1]
theorem set_length (k : Int) (t : Sur) : ∀ L : List Sur, (set L k t).length = L.length
  | [] => rfl
  | s :: L => by simp only [set]; split <;> simp [set_length k t L]
def par (L : List Sur) (k : Int) : Int := match get L k with
  | some s => s.parent
  | .none => 0
/-- Parents come before: a rank. -/
def Rk (L : List Sur) (rk : Int → Nat) : Prop := ∀ k s, get L k = some s → 0 < s.parent → rk s.parent < rk k
def synF (L : List Sur) : Nat → Int → Bool
  | 0, _ => false
  | n + 1, k => match get L k with
    | .none => false
    | some s => if 0 < s.parent then s.sync || synF L n s.parent else false
theorem synF_more {L : List Sur} {rk : Int → Nat} (h : Rk L rk) : ∀ (n m : Nat) (k : Int), rk k < n → rk k < m → synF L n k = synF L m k
  | 0, _, _, h1, _ => by omega
  | _, 0, _, _, h2 => by omega
  | n + 1, m + 1, k, h1, h2 => by
    simp only [synF]
    cases hk : get L k with
    | none => rfl
    | some s =>
      simp only []
      split
      · rename_i hp
        have := h k s hk hp
        rw [synF_more h n m s.parent (by omega) (by omega)]
      · rfl
/-- Does it wait for its parent? -/
def syn (L : List Sur) (rk : Int → Nat) (k : Int) : Bool := synF L (rk k + 1) k
theorem syn_none {L : List Sur} {rk : Int → Nat} {k : Int} (h : get L k = .none) : syn L rk k = false := by simp [syn, synF, h]
theorem syn_top {L : List Sur} {rk : Int → Nat} {k : Int} {s : Sur} (h : get L k = some s) (hp : ¬ 0 < s.parent) : syn L rk k = false := by simp [syn, synF, h, hp]
theorem syn_sync {L : List Sur} {rk : Int → Nat} {k : Int} {s : Sur} (h : get L k = some s) (hp : 0 < s.parent) (hs : s.sync = true) : syn L rk k = true := by simp [syn, synF, h, hp, hs]
theorem syn_up {L : List Sur} {rk : Int → Nat} (hr : Rk L rk) {k : Int} {s : Sur} (h : get L k = some s) (hp : 0 < s.parent) (hs : s.sync = false) : syn L rk k = syn L rk s.parent := by
  have := hr k s h hp
  unfold syn
  rw [synF]
  simp only [h, hp, if_true, hs, Bool.false_or]
  exact synF_more hr _ _ _ (by omega) (by omega)
/-- What errors there are. -/
inductive Er where
  | arg | object | big | role | place
end Go.Proofs.Sl
namespace Go.Proofs.Sl
theorem PSt.merge_zero (a : PSt) : a.merge PSt.zero = a := by
  cases a
  simp [PSt.merge, PSt.zero, puts]
def pCur (A : List Sur) (id : Int) : PSt := match get A id with
  | .none => PSt.zero
  | some s => s.cu
def pCa (A : List Sur) (id : Int) : PSt := match get A id with
  | .none => PSt.zero
  | some s => s.ca
theorem par_some {A : List Sur} {k : Int} {s : Sur} (h : get A k = some s) : par A k = s.parent := by simp [par, h]
theorem par_none {A : List Sur} {k : Int} (h : get A k = .none) : par A k = 0 := by simp [par, h]
theorem par_rk {A : List Sur} {rk : Int → Nat} (hr : Rk A rk) {k : Int} (h : 0 < par A k) : rk (par A k) < rk k := by
  cases hk : get A k with
  | none => rw [par_none hk] at h; omega
  | some s => rw [par_some hk] at h ⊢; exact hr k s hk h
end Go.Proofs.Sl

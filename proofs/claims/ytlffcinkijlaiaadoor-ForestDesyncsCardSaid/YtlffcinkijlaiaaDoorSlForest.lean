/- A forest in memory: the map, each surface's block, the rows of its three states. -/
import Derived.Test.YtlffcinkijlaiaaDoorSlSlice
import Derived.Test.YtlffcinkijlaiaaDoorSlPure
namespace Go.Proofs.Sl
open Go

def encI : Enc Int := ⟨3, 1, fun x => [.int .i64 x], fun _ => rfl, fun _ => rfl⟩
def encR : Enc Rc := ⟨133, 4, fun r => [.int .i64 r.x, .int .i64 r.y, .int .i64 r.w, .int .i64 r.h], fun _ => rfl, fun _ => rfl⟩
def encC : Enc Ch := ⟨73, 3, fun r => [.int .i64 r.id, .int .i64 r.x, .int .i64 r.y], fun _ => rfl, fun _ => rfl⟩
/-- A state, its slices with their headers. -/
structure RSt where
  at_ : Bool
  bu : Int
  da : Sli Rc
  fr : Sli Int
  inp : Bool
  all : Bool
  re : Sli Rc
  ord : Bool
  ol : Sli Int
  pl : Sli Ch
def RSt.cells (s : RSt) : List Value := [.bool s.at_, .int .i64 s.bu, s.da.v, s.fr.v, .bool s.inp, .bool s.all, s.re.v, .bool s.ord, s.ol.v, s.pl.v]
def RSt.rows (s : RSt) : List HP := [own encR s.da, own encI s.fr, own encR s.re, own encI s.ol, own encC s.pl]
def RSt.zero : RSt := ⟨false, 0, .nil, .nil, false, false, .nil, false, .nil, .nil⟩
/-- A surface: its block, when its entry was born. -/
structure Srf where
  p : Nat
  born : Nat
  id : Int
  parent : Int
  sync : Bool
  pe : RSt
  ca : RSt
  cu : RSt
def Srf.cells (s : Srf) : List Value := .int .i64 s.id :: .int .i64 s.parent :: .bool s.sync :: (s.pe.cells ++ s.ca.cells ++ s.cu.cells)
def Srf.hp (s : Srf) : HP := Grp (cel s.p 82 s.cells :: (s.pe.rows ++ s.ca.rows ++ s.cu.rows))
def Srf.ment (s : Srf) : Ment := ⟨s.id, .pointer (some ⟨s.p, 0, none⟩), s.born⟩
structure Fo where
  f : Nat
  mb : Nat
  clock : Nat
  L : List Srf
def Fo.hp (F : Fo) : HP := Grp (cel F.f 78 [.map (some F.mb)] :: imap F.mb (F.L.map Srf.ment) F.clock :: F.L.map Srf.hp)
/-- Whom a number names. -/
def look : List Srf → Int → Option Srf
  | [], _ => none
  | s :: L, k => if k = s.id then some s else look L k
theorem look_mget : ∀ (L : List Srf) (k : Int), mget (L.map Srf.ment) k = (look L k).map fun s => .pointer (some ⟨s.p, 0, none⟩)
  | [], k => rfl
  | s :: L, k => by
    simp only [List.map_cons, mget, look]
    split
    · rename_i h; rw [if_pos (by simpa [Srf.ment] using h)]; rfl
    · rename_i h; rw [if_neg (by simpa [Srf.ment] using h)]; exact look_mget L k
theorem look_id : ∀ {L : List Srf} {k : Int} {s : Srf}, look L k = some s → s.id = k
  | [], k, s, h => by simp [look] at h
  | t :: L, k, s, h => by
    simp only [look] at h
    split at h
    · simp at h; subst h; rename_i e; exact e.symm
    · exact look_id h
theorem look_mem : ∀ {L : List Srf} {k : Int} {s : Srf}, look L k = some s → s ∈ L
  | [], k, s, h => by simp [look] at h
  | t :: L, k, s, h => by
    simp only [look] at h
    split at h
    · simp at h; subst h; exact List.mem_cons_self ..
    · exact List.mem_cons_of_mem _ (look_mem h)
/-- All but the first with a number. -/
def others : List Srf → Int → List Srf
  | [], _ => []
  | s :: L, k => if k = s.id then L else s :: others L k
/-- The first with a number, turned. -/
def turned : List Srf → Int → Srf → List Srf
  | [], _, _ => []
  | s :: L, k, t => if k = s.id then t :: L else s :: turned L k t
theorem look_perm {k : Int} : ∀ {L : List Srf} {s : Srf}, look L k = some s → L.Perm (s :: others L k)
  | [], s, h => by simp [look] at h
  | t :: L, s, h => by
    simp only [look] at h
    simp only [others]
    split at h
    · rename_i e; simp at h; subst h; simp [e]
    · rename_i e; rw [if_neg e]; exact ((look_perm h).cons t).trans (.swap _ _ _)
theorem turned_perm {k : Int} : ∀ {L : List Srf} {s : Srf}, look L k = some s → ∀ t, (turned L k t).Perm (t :: others L k)
  | [], s, h, _ => by simp [look] at h
  | u :: L, s, h, t => by
    simp only [look] at h
    simp only [others, turned]
    split at h
    · rename_i e; simp [e]
    · rename_i e; rw [if_neg e, if_neg e]; exact ((turned_perm h t).cons u).trans (.swap _ _ _)
theorem turned_ment {k : Int} : ∀ {L : List Srf} {s : Srf}, look L k = some s → ∀ t, t.ment = s.ment → (turned L k t).map Srf.ment = L.map Srf.ment
  | [], s, h, _, _ => by simp [look] at h
  | u :: L, s, h, t, e => by
    simp only [look] at h
    simp only [turned]
    split at h
    · rename_i e'; simp at h; subst h; rw [if_pos e']; simp [e]
    · rename_i e'; rw [if_neg e']; simp [turned_ment h t e]
theorem look_turned {k : Int} : ∀ {L : List Srf} {s : Srf}, look L k = some s → ∀ t, t.id = k → ∀ j, look (turned L k t) j = if j = k then some t else look L j
  | [], s, h, _, _, _ => by simp [look] at h
  | u :: L, s, h, t, e, j => by
    simp only [look] at h
    simp only [turned]
    split at h
    · rename_i e'
      rw [if_pos e']
      simp only [look, e]
      by_cases h1 : j = k
      · rw [if_pos h1, if_pos h1]
      · rw [if_neg h1, if_neg h1, if_neg (by rw [← e']; exact h1)]
    · rename_i e'
      simp only [if_neg e', look]
      rw [look_turned h t e j]
      by_cases h1 : j = u.id
      · rw [if_pos h1, if_pos h1, if_neg (by rintro rfl; exact e' h1)]
      · rw [if_neg h1, if_neg h1]
def Fo.set (F : Fo) (k : Int) (t : Srf) : Fo := { F with L := turned F.L k t }
/-- The others, as one. -/
def Fo.rest (F : Fo) (k : Int) : HP := Grp ((others F.L k).map Srf.hp)
theorem Fo.open_ {w : World} {F : Fo} {R : List HP} (h : Sat w (F.hp :: R)) : Sat w (cel F.f 78 [.map (some F.mb)] :: imap F.mb (F.L.map Srf.ment) F.clock :: (F.L.map Srf.hp ++ R)) := h.ungroup
theorem Fo.out {w : World} {F : Fo} {R : List HP} {k : Int} {s : Srf} (hs : look F.L k = some s) (h : Sat w (F.hp :: R)) :
    Sat w (cel s.p 82 s.cells :: (s.pe.rows ++ s.ca.rows ++ s.cu.rows) ++ cel F.f 78 [.map (some F.mb)] :: imap F.mb (F.L.map Srf.ment) F.clock :: F.rest k :: R) := by
  have h1 := Fo.open_ h
  have p1 : (cel F.f 78 [.map (some F.mb)] :: imap F.mb (F.L.map Srf.ment) F.clock :: (F.L.map Srf.hp ++ R)).Perm (s.hp :: ((others F.L k).map Srf.hp ++ (cel F.f 78 [.map (some F.mb)] :: imap F.mb (F.L.map Srf.ment) F.clock :: R))) := by
    have p := ((look_perm hs).map Srf.hp)
    simp only [List.map_cons] at p
    have q := p.append_right (cel F.f 78 [.map (some F.mb)] :: imap F.mb (F.L.map Srf.ment) F.clock :: R)
    refine List.Perm.trans ?_ q
    refine List.Perm.trans ?_ (List.perm_middle.symm)
    refine List.Perm.cons _ ?_
    exact List.perm_middle.symm
  have h2 := (h1.perm p1)
  have h3 := h2.ungroup
  have p2 : (cel s.p 82 s.cells :: (s.pe.rows ++ s.ca.rows ++ s.cu.rows) ++ ((others F.L k).map Srf.hp ++ (cel F.f 78 [.map (some F.mb)] :: imap F.mb (F.L.map Srf.ment) F.clock :: R))).Perm
      ((others F.L k).map Srf.hp ++ (cel s.p 82 s.cells :: (s.pe.rows ++ s.ca.rows ++ s.cu.rows) ++ (cel F.f 78 [.map (some F.mb)] :: imap F.mb (F.L.map Srf.ment) F.clock :: R))) := by
    rw [← List.append_assoc, ← List.append_assoc]
    exact (List.perm_append_comm).append_right _
  have h4 := (h3.perm p2).group
  have p3 : (Grp ((others F.L k).map Srf.hp) :: (cel s.p 82 s.cells :: (s.pe.rows ++ s.ca.rows ++ s.cu.rows) ++ (cel F.f 78 [.map (some F.mb)] :: imap F.mb (F.L.map Srf.ment) F.clock :: R))).Perm
      (cel s.p 82 s.cells :: (s.pe.rows ++ s.ca.rows ++ s.cu.rows) ++ cel F.f 78 [.map (some F.mb)] :: imap F.mb (F.L.map Srf.ment) F.clock :: F.rest k :: R) := by
    refine List.Perm.trans (List.perm_middle (l₁ := cel s.p 82 s.cells :: (s.pe.rows ++ s.ca.rows ++ s.cu.rows)) (l₂ := cel F.f 78 [.map (some F.mb)] :: imap F.mb (F.L.map Srf.ment) F.clock :: R)).symm ?_
    refine List.Perm.append_left _ ?_
    exact (List.Perm.swap _ _ _).trans (((List.Perm.swap _ _ _)).cons _)
  exact h4.perm p3
theorem Fo.back {w : World} {F : Fo} {R : List HP} {k : Int} {s t : Srf} (hs : look F.L k = some s) (ht : t.ment = s.ment)
    (h : Sat w (cel t.p 82 t.cells :: (t.pe.rows ++ t.ca.rows ++ t.cu.rows) ++ cel F.f 78 [.map (some F.mb)] :: imap F.mb (F.L.map Srf.ment) F.clock :: F.rest k :: R)) : Sat w ((F.set k t).hp :: R) := by
  have h1 : Sat w (t.hp :: cel F.f 78 [.map (some F.mb)] :: imap F.mb (F.L.map Srf.ment) F.clock :: F.rest k :: R) := h.group
  have p1 : (t.hp :: cel F.f 78 [.map (some F.mb)] :: imap F.mb (F.L.map Srf.ment) F.clock :: F.rest k :: R).Perm
      (F.rest k :: t.hp :: cel F.f 78 [.map (some F.mb)] :: imap F.mb (F.L.map Srf.ment) F.clock :: R) := by
    exact (List.perm_middle (l₁ := [t.hp, cel F.f 78 [.map (some F.mb)], imap F.mb (F.L.map Srf.ment) F.clock]) (l₂ := R) (a := F.rest k))
  have h2 := (h1.perm p1).ungroup
  refine Sat.group (M := cel F.f 78 [.map (some F.mb)] :: imap F.mb ((F.set k t).L.map Srf.ment) F.clock :: (F.set k t).L.map Srf.hp) (h2.perm ?_)
  rw [show (F.set k t).L = turned F.L k t from rfl, turned_ment hs t ht]
  have p := ((turned_perm hs t).map Srf.hp)
  simp only [List.map_cons] at p
  have q := (p.append_right (cel F.f 78 [.map (some F.mb)] :: imap F.mb (F.L.map Srf.ment) F.clock :: R)).symm
  refine List.Perm.trans List.perm_middle ?_
  refine List.Perm.trans q ?_
  refine List.Perm.trans List.perm_middle ?_
  refine List.Perm.cons _ ?_
  exact List.perm_middle
/-! ### Reads off the whole -/
theorem Has.fof {F : Fo} {R : List HP} : Has (F.hp :: R) F.f (.cells [.map (some F.mb)].toArray 78 (0, 0)) := fun _ h => (Fo.open_ h).get
theorem Has.fomap {F : Fo} {R : List HP} : Has (F.hp :: R) F.mb (.map ((F.L.map Srf.ment).map Ment.ent).toArray F.clock) := fun _ h => (Fo.open_ h).drop.get
theorem Has.srf {F : Fo} {R : List HP} {k : Int} {s : Srf} (hs : look F.L k = some s) : Has (F.hp :: R) s.p (.cells s.cells.toArray 82 (0, 0)) := fun _ h => (Fo.out hs h).get
end Go.Proofs.Sl
namespace Go.Proofs.Sl
open Go
/-- The list tells of A. -/
def Inc (L : List HP) (A : HP) : Prop := ∀ w, Sat w L → Sat w [A]
theorem Inc.here {A : HP} {L : List HP} : Inc (A :: L) A := fun _ s => Sat.left (L := [A]) (M := L) s
theorem Inc.there {A B : HP} {L : List HP} (h : Inc L A) : Inc (B :: L) A := fun w s => h w s.drop
theorem Inc.fof {L : List HP} {F : Fo} (h : Inc L F.hp) : Has L F.f (.cells [.map (some F.mb)].toArray 78 (0, 0)) := fun w s => Has.fof w (h w s)
theorem Inc.fomap {L : List HP} {F : Fo} (h : Inc L F.hp) : Has L F.mb (.map ((F.L.map Srf.ment).map Ment.ent).toArray F.clock) := fun w s => Has.fomap w (h w s)
theorem Inc.srf {L : List HP} {F : Fo} (h : Inc L F.hp) {k : Int} {s : Srf} (hs : look F.L k = some s) : Has L s.p (.cells s.cells.toArray 82 (0, 0)) := fun w q => Has.srf hs w (h w q)
/-- A slice that may be read, by what the list tells. -/
theorem Inc.own {α : Type} {L : List HP} {e : Enc α} {s : Sli α} (h : Inc L (Sl.own e s)) : (∃ w, Sat w L) → Rds L e s := fun ⟨w, hw⟩ => (Rds.own w (h w hw)).weak h
theorem Inc.old {L : List HP} {w0 : World} (h : Inc L (Old w0)) {b : Nat} {o : Obj} (h0 : w0.heap[b]? = some o) : Has L b o := fun w s => (h w s).old h0
def Er.g : Er → Nat
  | .arg => 0
  | .object => 1
  | .big => 2
  | .role => 3
  | .place => 4
def errV (p : Nat → Addr) : Option Er → Value
  | none => .nilIface
  | some e => .iface 194 (.pointer (some (p e.g)))
end Go.Proofs.Sl
namespace Go.Proofs.Sl
open Go
theorem look_v {L : List Srf} {k : Int} {s : Srf} {z : Value} (hs : look L k = some s) : (mget (L.map Srf.ment) k).getD z = .pointer (some ⟨s.p, 0, none⟩) := by rw [look_mget, hs]; rfl
theorem look_n {L : List Srf} {k : Int} {z : Value} (hs : look L k = none) : (mget (L.map Srf.ment) k).getD z = z := by rw [look_mget, hs]; rfl
end Go.Proofs.Sl
namespace Go.Proofs.Sl
open Go
/-- A pointer to a surface, or none. -/
def pv : Option Srf → Value
  | none => .pointer none
  | some s => .pointer (some ⟨s.p, 0, none⟩)
theorem look_pv (L : List Srf) (k : Int) : (mget (L.map Srf.ment) k).getD (.pointer none) = pv (look L k) := by rw [look_mget]; cases look L k <;> rfl
/-- What is meant. -/
def RSt.abs (s : RSt) : PSt := ⟨s.at_, s.bu, s.da.xs, s.fr.xs, s.inp, s.all, s.re.xs, s.ord, s.ol.xs, s.pl.xs⟩
def Srf.abs (s : Srf) : Sur := ⟨s.id, s.parent, s.sync, s.pe.abs, s.ca.abs, s.cu.abs⟩
def Fo.abs (F : Fo) : List Sur := F.L.map Srf.abs
theorem abs_get : ∀ (L : List Srf) (k : Int), Sl.get (L.map Srf.abs) k = (look L k).map Srf.abs
  | [], k => rfl
  | s :: L, k => by
    simp only [List.map_cons, Sl.get, look]
    split
    · rename_i h; rw [if_pos (by simpa [Srf.abs] using h)]; rfl
    · rename_i h; rw [if_neg (by simpa [Srf.abs] using h)]; exact abs_get L k
theorem Fo.get_some {F : Fo} {k : Int} {s : Srf} (h : look F.L k = some s) : Sl.get F.abs k = some s.abs := by rw [Fo.abs, abs_get, h]; rfl
theorem Fo.get_none {F : Fo} {k : Int} (h : look F.L k = none) : Sl.get F.abs k = none := by rw [Fo.abs, abs_get, h]; rfl
theorem Fo.look_some {F : Fo} {k : Int} {s : Sur} (h : Sl.get F.abs k = some s) : ∃ t, look F.L k = some t ∧ t.abs = s := by
  rw [Fo.abs, abs_get] at h
  cases hl : look F.L k with
  | none => rw [hl] at h; cases h
  | some t => rw [hl] at h; exact ⟨t, rfl, by simpa using h⟩
theorem Fo.look_none {F : Fo} {k : Int} (h : Sl.get F.abs k = none) : look F.L k = none := by
  rw [Fo.abs, abs_get] at h
  cases hl : look F.L k with
  | none => rfl
  | some t => rw [hl] at h; cases h
theorem abs_turned (k : Int) (t : Srf) : ∀ L : List Srf, (turned L k t).map Srf.abs = Sl.set (L.map Srf.abs) k t.abs
  | [] => rfl
  | s :: L => by
    simp only [turned, List.map_cons, Sl.set]
    split
    · rename_i h; rw [if_pos (by simpa [Srf.abs] using h)]; rfl
    · rename_i h; rw [if_neg (by simpa [Srf.abs] using h)]; simp [abs_turned k t L]
theorem Fo.set_abs (F : Fo) (k : Int) (t : Srf) : (F.set k t).abs = Sl.set F.abs k t.abs := abs_turned k t F.L
end Go.Proofs.Sl
namespace Go.Proofs.Sl
open Go
theorem Rds.at {α : Type} {L : List HP} {e : Enc α} {s : Sli α} (h : Rds L e s) {i : Nat} (hi : i < s.xs.length) : ∃ b off, s.a = some ⟨b, off, none⟩ := by
  rcases h with h | ⟨b, off, ha, _⟩
  · rw [h] at hi; simp at hi
  · exact ⟨b, off, ha⟩
def tot {α : Type} (l : List (Sli α)) : Nat := (l.map fun s => s.xs.length).sum
theorem tot_take {α : Type} (l : List (Sli α)) (i : Nat) (h : i < l.length) : tot (l.take (i + 1)) = tot (l.take i) + (l[i]).xs.length := by
  unfold tot
  rw [List.take_succ_eq_append_getElem h, List.map_append, List.sum_append]; rfl
theorem tot_le {α : Type} (l : List (Sli α)) (i : Nat) : tot (l.take i) ≤ tot l := by
  have h : tot l = tot (l.take i) + tot (l.drop i) := by
    unfold tot; rw [← List.sum_append, ← List.map_append, List.take_append_drop]
  omega
def cat {α : Type} (l : List (Sli α)) : List α := l.flatMap fun s => s.xs
theorem cat_take {α : Type} (l : List (Sli α)) (i : Nat) (h : i < l.length) : cat (l.take (i + 1)) = cat (l.take i) ++ (l[i]).xs := by
  unfold cat
  rw [List.take_succ_eq_append_getElem h, List.flatMap_append]; simp only [List.flatMap_cons, List.flatMap_nil, List.append_nil]
theorem cat_length {α : Type} (l : List (Sli α)) : (cat l).length = tot l := by
  unfold cat tot; rw [List.length_flatMap]
end Go.Proofs.Sl

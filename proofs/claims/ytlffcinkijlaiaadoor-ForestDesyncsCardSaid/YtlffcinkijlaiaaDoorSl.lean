/- A small separation logic over the model's memory: assertions on parts of the heap, lists of them, and the facts that every walk uses. -/
import Derived.Calls
import Derived.Tactics
namespace Go.Proofs.Sl
open Go

/-- What a world has besides its memory, and a walk leaves alone. -/
structure Sig where
  os : Os
  output : Array (Nat × ByteArray)
/-- A place: a block, or what lies beside the memory. -/
abbrev Loc := Option Nat
abbrev Thing := Obj ⊕ Sig
def sigOf (w : World) : Sig := ⟨w.os, w.output⟩
def at_ (w : World) : Loc → Option Thing
  | some b => (w.heap[b]?).map .inl
  | none => some (.inr (sigOf w))
/-- A part of memory: some of its blocks. -/
abbrev Hp := Loc → Option Thing
/-- What may be said of a part of memory. -/
def HP : Type := Hp → Prop

def Hp.disj (h1 h2 : Hp) : Prop := ∀ b, h1 b = none ∨ h2 b = none
def Hp.join (h1 h2 : Hp) : Hp := fun b => (h1 b).or (h2 b)
def Hp.le (h : Hp) (w : World) : Prop := ∀ b o, h b = some o → at_ w b = some o

/-- All of a list, apart from one another. -/
def Star : List HP → Hp → Prop
  | [], _ => True
  | A :: L, h => ∃ h1 h2, Hp.disj h1 h2 ∧ h = Hp.join h1 h2 ∧ A h1 ∧ Star L h2

/-- The world holds all of the list, apart from one another. -/
def Sat (w : World) (L : List HP) : Prop := ∃ h, Hp.le h w ∧ Star L h

/-- Block b is o. -/
def blk (b : Nat) (o : Obj) : HP := fun h => h (some b) = some (.inl o)
/-- All that stood in w0. -/
def Old (w0 : World) : HP := fun h => ∀ (b : Loc) (o : Thing), at_ w0 b = some o → h b = some o
theorem at_some {w : World} {b : Nat} {o : Obj} : at_ w (some b) = some (.inl o) ↔ w.heap[b]? = some o := by simp [at_]
def Grp (L : List HP) : HP := Star L
def Pure (p : Prop) : HP := fun _ => p
def Ex.{u} {α : Sort u} (A : α → HP) : HP := fun h => ∃ x, A x h

theorem Hp.disj_comm {h1 h2 : Hp} (h : Hp.disj h1 h2) : Hp.disj h2 h1 := fun b => (h b).symm
theorem Hp.join_comm {h1 h2 : Hp} (h : Hp.disj h1 h2) : Hp.join h1 h2 = Hp.join h2 h1 := by
  funext b
  rcases h b with e | e <;> simp [Hp.join, e]
theorem Hp.join_assoc (h1 h2 h3 : Hp) : Hp.join (Hp.join h1 h2) h3 = Hp.join h1 (Hp.join h2 h3) := by
  funext b
  cases h : h1 b <;> simp [Hp.join, h]
theorem Hp.disj_join_left {h1 h2 h3 : Hp} (h : Hp.disj (Hp.join h1 h2) h3) : Hp.disj h1 h3 ∧ Hp.disj h2 h3 := by
  constructor <;> intro b <;> rcases h b with e | e
  · left; cases h' : h1 b with
    | none => rfl
    | some o => simp [Hp.join, h'] at e
  · exact .inr e
  · left; cases h' : h1 b with
    | none => simpa [Hp.join, h'] using e
    | some o => simp [Hp.join, h'] at e
  · exact .inr e
theorem Hp.disj_join_right {h1 h2 h3 : Hp} (h : Hp.disj h1 (Hp.join h2 h3)) : Hp.disj h1 h2 ∧ Hp.disj h1 h3 :=
  let ⟨a, b⟩ := Hp.disj_join_left (Hp.disj_comm h); ⟨Hp.disj_comm a, Hp.disj_comm b⟩
theorem Hp.disj_join {h1 h2 h3 : Hp} (a : Hp.disj h1 h3) (b : Hp.disj h2 h3) : Hp.disj (Hp.join h1 h2) h3 := fun x => by
  rcases a x with e | e
  · rcases b x with e' | e'
    · left; simp [Hp.join, e, e']
    · exact .inr e'
  · exact .inr e
theorem Hp.join_left {h1 h2 : Hp} {b : Loc} {o : Thing} (h : h1 b = some o) : Hp.join h1 h2 b = some o := by simp [Hp.join, h]
theorem Hp.join_right {h1 h2 : Hp} (d : Hp.disj h1 h2) {b : Loc} {o : Thing} (h : h2 b = some o) : Hp.join h1 h2 b = some o := by
  rcases d b with e | e
  · simp [Hp.join, h, e]
  · rw [h] at e; cases e

theorem Star.swap {A B : HP} {L : List HP} {h : Hp} (s : Star (A :: B :: L) h) : Star (B :: A :: L) h := by
  obtain ⟨h1, h2, d, rfl, hA, h3, h4, d', rfl, hB, hL⟩ := s
  obtain ⟨d3, d4⟩ := Hp.disj_join_right d
  refine ⟨h3, Hp.join h1 h4, Hp.disj_comm (Hp.disj_join d3 (Hp.disj_comm d')), ?_, hB, h1, h4, d4, rfl, hA, hL⟩
  rw [← Hp.join_assoc, ← Hp.join_assoc, Hp.join_comm d3]
theorem Star.perm {L L' : List HP} (p : L.Perm L') : ∀ {h : Hp}, Star L h → Star L' h := by
  induction p with
  | nil => exact id
  | cons A _ ih => exact fun ⟨h1, h2, d, e, hA, hL⟩ => ⟨h1, h2, d, e, hA, ih hL⟩
  | swap A B L => exact Star.swap
  | trans _ _ ih1 ih2 => exact fun s => ih2 (ih1 s)
/-- More memory does no harm. -/
theorem Star.more {L : List HP} : ∀ {h1 h2 : Hp}, Hp.disj h1 h2 → Star L h2 → Star L (Hp.join h1 h2) := by
  induction L with
  | nil => intro h1 h2 _ _; exact trivial
  | cons A M ih =>
    intro h1 h2 d s
    obtain ⟨h3, h4, d', rfl, hA, hM⟩ := s
    obtain ⟨d3, d4⟩ := Hp.disj_join_right d
    exact ⟨h3, Hp.join h1 h4, Hp.disj_comm (Hp.disj_join d3 (Hp.disj_comm d')), by rw [← Hp.join_assoc, ← Hp.join_assoc, Hp.join_comm d3], hA, ih d4 hM⟩
theorem Star.append {L M : List HP} : ∀ {h1 h2 : Hp}, Hp.disj h1 h2 → Star L h1 → Star M h2 → Star (L ++ M) (Hp.join h1 h2) := by
  induction L with
  | nil => intro h1 h2 d _ hM; exact Star.more d hM
  | cons A L ih =>
    intro h1 h2 d hL hM
    obtain ⟨h3, h4, d', rfl, hA, hL⟩ := hL
    obtain ⟨d3, d4⟩ := Hp.disj_join_left d
    exact ⟨h3, Hp.join h4 h2, Hp.disj_comm (Hp.disj_join (Hp.disj_comm d') (Hp.disj_comm d3)), Hp.join_assoc _ _ _, hA, ih d4 hL hM⟩
theorem Star.split {L M : List HP} : ∀ {h : Hp}, Star (L ++ M) h → ∃ h1 h2, Hp.disj h1 h2 ∧ h = Hp.join h1 h2 ∧ Star L h1 ∧ Star M h2 := by
  induction L with
  | nil => intro h s; exact ⟨fun _ => none, h, fun _ => .inl rfl, by funext b; simp [Hp.join], trivial, s⟩
  | cons A L ih =>
    intro h s
    obtain ⟨h1, h2, d, rfl, hA, s⟩ := s
    obtain ⟨h3, h4, d', rfl, hL, hM⟩ := ih s
    obtain ⟨d3, d4⟩ := Hp.disj_join_right d
    exact ⟨Hp.join h1 h3, h4, Hp.disj_join d4 d', (Hp.join_assoc _ _ _).symm, ⟨h1, h3, d3, rfl, hA, hL⟩, hM⟩

theorem Sat.perm {w : World} {L L' : List HP} (p : L.Perm L') (s : Sat w L) : Sat w L' :=
  let ⟨h, l, s⟩ := s; ⟨h, l, s.perm p⟩
theorem Sat.swap {w : World} {A B : HP} {L : List HP} (s : Sat w (A :: B :: L)) : Sat w (B :: A :: L) := let ⟨h, l, s⟩ := s; ⟨h, l, s.swap⟩
/-- The first of the list may be dropped. -/
theorem Sat.drop {w : World} {A : HP} {L : List HP} (s : Sat w (A :: L)) : Sat w L := by
  obtain ⟨h, l, h1, h2, d, rfl, _, s⟩ := s
  exact ⟨h2, fun b o e => l b o (Hp.join_right d e), s⟩
theorem Sat.left {w : World} {L M : List HP} (s : Sat w (L ++ M)) : Sat w L := by
  obtain ⟨h, l, s⟩ := s
  obtain ⟨h1, h2, d, rfl, s1, s2⟩ := s.split
  exact ⟨h1, fun b o e => l b o (Hp.join_left e), s1⟩
theorem Sat.right {w : World} {L M : List HP} (s : Sat w (L ++ M)) : Sat w M := by
  obtain ⟨h, l, s⟩ := s
  obtain ⟨h1, h2, d, rfl, s1, s2⟩ := s.split
  exact ⟨h2, fun b o e => l b o (Hp.join_right d e), s2⟩
/-- The world may grow, and turn where nothing is said. -/
theorem Sat.ext {w w' : World} {L : List HP} (s : Sat w L) (g : sigOf w' = sigOf w) (e : ∀ (b : Nat) (o : Obj), w.heap[b]? = some o → w'.heap[b]? = some o) : Sat w' L :=
  let ⟨h, l, s⟩ := s; ⟨h, fun b o hb => by
    have h1 := l b o hb
    cases b with
    | none => simp only [at_] at h1 ⊢; rw [g]; exact h1
    | some b =>
      simp only [at_, Option.map_eq_some_iff] at h1 ⊢
      obtain ⟨x, h2, h3⟩ := h1
      exact ⟨x, e b x h2, h3⟩, s⟩
theorem Sat.heap {w w' : World} {L : List HP} (s : Sat w L) (g : sigOf w' = sigOf w) (e : w'.heap = w.heap) : Sat w' L := s.ext g fun b o h => by rw [e]; exact h
theorem Sat.get {w : World} {b : Nat} {o : Obj} {L : List HP} (s : Sat w (blk b o :: L)) : w.heap[b]? = some o := by
  obtain ⟨h, l, h1, h2, d, rfl, hA, s⟩ := s
  exact at_some.1 (l _ _ (Hp.join_left hA))
theorem Sat.old {w w0 : World} {L : List HP} (s : Sat w (Old w0 :: L)) {b : Nat} {o : Obj} (hb : w0.heap[b]? = some o) : w.heap[b]? = some o := by
  obtain ⟨h, l, h1, h2, d, rfl, hA, s⟩ := s
  exact at_some.1 (l _ _ (Hp.join_left (hA _ _ (at_some.2 hb))))
theorem Sat.oldSig {w w0 : World} {L : List HP} (s : Sat w (Old w0 :: L)) : sigOf w = sigOf w0 := by
  obtain ⟨h, l, h1, h2, d, rfl, hA, s⟩ := s
  have h3 := l none _ (Hp.join_left (hA none _ rfl))
  simpa [at_] using h3
theorem Sat.start (w : World) : Sat w [Old w] := ⟨at_ w, fun _ _ h => h, at_ w, fun _ => none, fun _ => .inr rfl, by funext b; simp [Hp.join], fun _ _ h => h, trivial⟩
/-- Two that are apart are two. -/
theorem Sat.ne {w : World} {b c : Nat} {o p : Obj} {L : List HP} (s : Sat w (blk b o :: blk c p :: L)) : b ≠ c := by
  rintro rfl
  obtain ⟨h, l, h1, h2, d, rfl, hA, h3, h4, d', rfl, hB, s⟩ := s
  rcases d (some b) with e | e
  · rw [show h1 (some b) = some _ from hA] at e; cases e
  · rw [Hp.join_left (show h3 (some b) = some _ from hB)] at e; cases e
/-- A block that is written. -/
theorem Sat.put {w w' : World} {b : Nat} {o o' : Obj} {L : List HP} (s : Sat w (blk b o :: L)) (g : sigOf w' = sigOf w) (hb : w'.heap[b]? = some o')
    (e : ∀ (c : Nat) (x : Obj), c ≠ b → w.heap[c]? = some x → w'.heap[c]? = some x) : Sat w' (blk b o' :: L) := by
  obtain ⟨h, l, h1, h2, d, rfl, hA, s⟩ := s
  have h2b : h2 (some b) = none := by
    rcases d (some b) with e | e
    · rw [show h1 (some b) = some _ from hA] at e; cases e
    · exact e
  refine ⟨Hp.join (fun c => if c = some b then some (.inl o') else none) h2, ?_, fun c => if c = some b then some (.inl o') else none, h2, ?_, rfl, by simp [blk], s⟩
  · intro c x hc
    by_cases hcb : c = some b
    · subst hcb
      simp [Hp.join] at hc
      rw [← hc]; exact at_some.2 hb
    · simp [Hp.join, hcb] at hc
      have h3 := l c x (Hp.join_right d hc)
      cases c with
      | none => simp only [at_] at h3 ⊢; rw [g]; exact h3
      | some c =>
        simp only [at_, Option.map_eq_some_iff] at h3 ⊢
        obtain ⟨y, h4, h5⟩ := h3
        exact ⟨y, e c y (by rintro rfl; exact hcb rfl) h4, h5⟩
  · intro c
    by_cases hcb : c = some b
    · subst hcb; exact .inr h2b
    · left; simp [hcb]
/-- A new block. -/
theorem Sat.new {w w' : World} {o : Obj} {L : List HP} (s : Sat w L) (g : sigOf w' = sigOf w) (hb : w'.heap[w.heap.size]? = some o)
    (e : ∀ (c : Nat) (x : Obj), w.heap[c]? = some x → w'.heap[c]? = some x) : Sat w' (blk w.heap.size o :: L) := by
  obtain ⟨h, l, s⟩ := s
  have hn : h (some w.heap.size) = none := by
    cases hh : h (some w.heap.size) with
    | none => rfl
    | some x => have := l _ _ hh; simp [at_] at this
  refine ⟨Hp.join (fun c => if c = some w.heap.size then some (.inl o) else none) h, ?_, _, h, ?_, rfl, by simp [blk], s⟩
  · intro c x hc
    by_cases hcb : c = some w.heap.size
    · subst hcb; simp [Hp.join] at hc; rw [← hc]; exact at_some.2 hb
    · simp [Hp.join, hcb] at hc
      have h3 := l c x hc
      cases c with
      | none => simp only [at_] at h3 ⊢; rw [g]; exact h3
      | some c =>
        simp only [at_, Option.map_eq_some_iff] at h3 ⊢
        obtain ⟨y, h4, h5⟩ := h3
        exact ⟨y, e c y h4, h5⟩
  · intro c
    by_cases hcb : c = some w.heap.size
    · subst hcb; exact .inr hn
    · left; simp [hcb]
/-- The first is laid open. -/
theorem Sat.open_ {w : World} {A : HP} {M L : List HP} (s : Sat w (A :: L)) (e : ∀ h, A h → Star M h) : Sat w (M ++ L) := by
  obtain ⟨h, l, h1, h2, d, rfl, hA, s⟩ := s
  exact ⟨_, l, Star.append d (e _ hA) s⟩
theorem Sat.close {w : World} {A : HP} {M L : List HP} (s : Sat w (M ++ L)) (e : ∀ h, Star M h → A h) : Sat w (A :: L) := by
  obtain ⟨h, l, s⟩ := s
  obtain ⟨h1, h2, d, rfl, s1, s2⟩ := s.split
  exact ⟨_, l, h1, h2, d, rfl, e _ s1, s2⟩
theorem Sat.conv {w : World} {A B : HP} {L : List HP} (s : Sat w (A :: L)) (e : ∀ h, A h → B h) : Sat w (B :: L) := by
  obtain ⟨h, l, h1, h2, d, rfl, hA, s⟩ := s
  exact ⟨_, l, h1, h2, d, rfl, e _ hA, s⟩
theorem Sat.ex.{u} {w : World} {α : Sort u} {A : α → HP} {L : List HP} (s : Sat w (Ex A :: L)) : ∃ x, Sat w (A x :: L) := by
  obtain ⟨h, l, h1, h2, d, rfl, ⟨x, hA⟩, s⟩ := s
  exact ⟨x, _, l, h1, h2, d, rfl, hA, s⟩
theorem Sat.toEx.{u} {w : World} {α : Sort u} {A : α → HP} {L : List HP} {x : α} (s : Sat w (A x :: L)) : Sat w (Ex A :: L) := s.conv fun _ h => ⟨x, h⟩
theorem Sat.pure {w : World} {p : Prop} {L : List HP} (s : Sat w (Pure p :: L)) : p := by
  obtain ⟨h, l, h1, h2, d, rfl, hp, s⟩ := s; exact hp
theorem Sat.toPure {w : World} {p : Prop} {L : List HP} (s : Sat w L) (hp : p) : Sat w (Pure p :: L) := by
  obtain ⟨h, l, s⟩ := s
  exact ⟨h, l, fun _ => none, h, fun _ => .inl rfl, by funext b; simp [Hp.join], hp, s⟩
theorem Sat.group {w : World} {M L : List HP} (s : Sat w (M ++ L)) : Sat w (Grp M :: L) := s.close fun _ h => h
theorem Sat.ungroup {w : World} {M L : List HP} (s : Sat w (Grp M :: L)) : Sat w (M ++ L) := s.open_ fun _ h => h

end Go.Proofs.Sl

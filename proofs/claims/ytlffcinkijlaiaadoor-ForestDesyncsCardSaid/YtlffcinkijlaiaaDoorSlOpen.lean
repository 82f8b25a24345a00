/- A forest's surface laid open and put back; what may be read; the errors' variables; bounds; the calls of a forest, plainly. -/
import Derived.Test.YtlffcinkijlaiaaDoorSlForest
import Derived.Test.YtlffcinkijlaiaaDoorSlDraw
import Derived.OwnWalk
namespace Go.Proofs.Sl
open Go

/-! ### The plain calls -/
abbrev Out := Option Er × List Sur
def pAdd (A : List Sur) (id : Int) : Out :=
  if id < 1 then (some .arg, A) else if (get A id).isSome then (some .object, A) else if (40 : Int) ≤ (A.length : Int) then (some .big, A) else (none, A ++ [⟨id, 0, false, PSt.zero, PSt.zero, PSt.first⟩])
/-- A subsurface's surface, or why not. -/
def pSync (A : List Sur) (id : Int) (on : Bool) : Out := match get A id with
  | none => (some .object, A)
  | some s => if s.parent = 0 then (some .role, A) else (none, set A id { s with sync := on })
def pTurn (A : List Sur) (id : Int) (g : PSt → PSt) : Out := match get A id with
  | none => (some .object, A)
  | some s => (none, set A id { s with pe := g s.pe })
def Sur.lat (s : Sur) : List Int := if s.pe.ord then s.pe.ol else if s.ca.ord then s.ca.ol else s.cu.ol
theorem Sur.lat_len {s : Sur} {n : Nat} (h1 : s.pe.ol.length ≤ n) (h2 : s.ca.ol.length ≤ n) (h3 : s.cu.ol.length ≤ n) : s.lat.length ≤ n := by
  unfold Sur.lat; split
  · exact h1
  · split
    · exact h2
    · exact h3
/-- Is id in parent's line upward? -/
def upF (A : List Sur) (id : Int) : Nat → Int → Bool
  | 0, _ => false
  | n + 1, x => if 0 < x then x = id || upF A id n (par A x) else false
def up (A : List Sur) (rk : Int → Nat) (id x : Int) : Bool := upF A id (rk x + 1) x
theorem upF_more {A : List Sur} {rk : Int → Nat} (hr : Rk A rk) (id : Int) : ∀ (n m : Nat) (x : Int), rk x < n → rk x < m → upF A id n x = upF A id m x
  | 0, _, _, h1, _ => by omega
  | _, 0, _, _, h2 => by omega
  | n + 1, m + 1, x, h1, h2 => by
    simp only [upF]
    split
    · rename_i hx
      by_cases hp : 0 < par A x
      · have := par_rk hr hp
        rw [upF_more hr id n m (par A x) (by omega) (by omega)]
      · have e : ∀ k, upF A id k (par A x) = false := fun k => by cases k <;> simp [upF, hp]
        rw [e, e]
    · rfl
theorem up_no {A : List Sur} {rk : Int → Nat} {id x : Int} (h : ¬ 0 < x) : up A rk id x = false := by simp [up, upF, h]
theorem up_here {A : List Sur} {rk : Int → Nat} {id x : Int} (h : 0 < x) (e : x = id) : up A rk id x = true := by subst e; simp [up, upF, h]
theorem up_step {A : List Sur} {rk : Int → Nat} (hr : Rk A rk) {id x : Int} (h : 0 < x) (e : ¬ x = id) : up A rk id x = up A rk id (par A x) := by
  unfold up
  rw [upF]
  simp only [h, if_true, e, decide_false, Bool.false_or]
  by_cases hp : 0 < par A x
  · have := par_rk hr hp
    exact upF_more hr id _ _ _ (by omega) (by omega)
  · have e : ∀ k, upF A id k (par A x) = false := fun k => by cases k <;> simp [upF, hp]
    rw [e, e]
def pOrd (s : Sur) (id : Int) : Sur := { s with pe := { s.pe with ord := true, ol := top s.lat id, pl := put s.pe.pl ⟨id, 0, 0⟩ } }
def pSub (A : List Sur) (rk : Int → Nat) (id parent : Int) : Out := match get A id with
  | none => (some .object, A)
  | some s => match get A parent with
    | none => (some .object, A)
    | some _ => if 0 < s.parent then (some .role, A) else if up A rk id parent = true then (some .place, A) else
      match get (set A id { s with parent := parent, sync := true }) parent with
      | none => (none, set A id { s with parent := parent, sync := true })
      | some p => (none, set (set A id { s with parent := parent, sync := true }) parent (pOrd p id))
section
variable {A : List Sur} {rk : Int → Nat} {id parent : Int}
theorem pSub_none1 (h : get A id = none) : pSub A rk id parent = (some .object, A) := by simp [pSub, h]
theorem pSub_none2 {s : Sur} (h : get A id = some s) (h2 : get A parent = none) : pSub A rk id parent = (some .object, A) := by simp [pSub, h, h2]
theorem pSub_role {s q : Sur} (h : get A id = some s) (h2 : get A parent = some q) (h3 : 0 < s.parent) : pSub A rk id parent = (some .role, A) := by simp [pSub, h, h2, h3]
theorem pSub_place {s q : Sur} (h : get A id = some s) (h2 : get A parent = some q) (h3 : ¬ 0 < s.parent) (h4 : up A rk id parent = true) : pSub A rk id parent = (some .place, A) := by simp [pSub, h, h2, h3, h4]
theorem pSub_ok {s q p : Sur} (h : get A id = some s) (h2 : get A parent = some q) (h3 : ¬ 0 < s.parent) (h4 : up A rk id parent = false) (h5 : get (set A id { s with parent := parent, sync := true }) parent = some p) :
    pSub A rk id parent = (none, set (set A id { s with parent := parent, sync := true }) parent (pOrd p id)) := by simp [pSub, h, h2, h3, h4, h5]
end

/-! ### Bounds -/
def PSt.wt (s : PSt) : Nat := s.da.length + s.fr.length + s.pl.length
def PSt.Lim (n : Nat) (s : PSt) : Prop := s.ol.length ≤ n + 1 ∧ s.re.length ≤ n + 20
def Sur.wt (s : Sur) : Nat := s.pe.wt + s.ca.wt + s.cu.wt
def Sur.Lim (n : Nat) (s : Sur) : Prop := s.pe.Lim n ∧ s.ca.Lim n ∧ s.cu.Lim n
def wt : List Sur → Nat
  | [] => 0
  | s :: A => s.wt + wt A
/-- Nothing is longer than n calls make it. -/
def Lim (n : Nat) (A : List Sur) : Prop := wt A ≤ n ∧ ∀ s ∈ A, s.Lim n
theorem wt_get : ∀ {A : List Sur} {k : Int} {s : Sur}, get A k = some s → s.wt ≤ wt A
  | [], k, s, h => by simp [get] at h
  | t :: A, k, s, h => by
    simp only [get] at h
    split at h
    · simp at h; subst h; simp [wt]
    · have := wt_get h; simp only [wt]; omega
theorem wt_set : ∀ {A : List Sur} {k : Int} {s : Sur}, get A k = some s → ∀ t, wt (set A k t) + s.wt = wt A + t.wt
  | [], k, s, h, _ => by simp [get] at h
  | u :: A, k, s, h, t => by
    simp only [get] at h
    simp only [set]
    split at h
    · rename_i e; simp at h; subst h; rw [if_pos e]; simp only [wt]; omega
    · rename_i e; rw [if_neg e]; have := wt_set h t; simp only [wt]; omega
theorem mem_set : ∀ {A : List Sur} {k : Int} {t u : Sur}, u ∈ set A k t → u ∈ A ∨ u = t
  | [], _, _, _, h => by simp [set] at h
  | v :: A, k, t, u, h => by
    simp only [set] at h
    split at h
    · rcases List.mem_cons.1 h with h | h
      · exact .inr h
      · exact .inl (List.mem_cons_of_mem _ h)
    · rcases List.mem_cons.1 h with h | h
      · exact .inl (h ▸ List.mem_cons_self ..)
      · rcases mem_set h with h | h
        · exact .inl (List.mem_cons_of_mem _ h)
        · exact .inr h
theorem Lim.set {n m : Nat} {A : List Sur} {k : Int} {s t : Sur} (h : Lim n A) (hs : get A k = some s) (hnm : n ≤ m) (hw : n + t.wt ≤ m + s.wt) (ht : t.Lim m) : Lim m (set A k t) := by
  refine ⟨?_, fun u hu => ?_⟩
  · have := wt_set hs t; have := h.1; omega
  · rcases mem_set hu with hu | rfl
    · obtain ⟨⟨a, b⟩, ⟨c, d⟩, e, f⟩ := h.2 u hu
      exact ⟨⟨by omega, by omega⟩, ⟨by omega, by omega⟩, by omega, by omega⟩
    · exact ht
theorem PSt.Lim.mono {n m : Nat} {s : PSt} (h : PSt.Lim n s) (hnm : n ≤ m) : PSt.Lim m s := ⟨by have := h.1; omega, by have := h.2; omega⟩
theorem Sur.Lim.mono {n m : Nat} {s : Sur} (h : Sur.Lim n s) (hnm : n ≤ m) : Sur.Lim m s := ⟨h.1.mono hnm, h.2.1.mono hnm, h.2.2.mono hnm⟩
theorem Lim.mono {n m : Nat} {A : List Sur} (h : Lim n A) (hnm : n ≤ m) : Lim m A := ⟨by have := h.1; omega, fun s hs => (h.2 s hs).mono hnm⟩
end Go.Proofs.Sl
namespace Go.Proofs.Sl
open Go
/-! ### Open, close -/
theorem Grp.sat1 {w : World} {M R : List HP} : Sat w (Grp M :: R) ↔ Sat w (M ++ R) := ⟨Sat.ungroup, Sat.group⟩
theorem Sat.mid {w : World} {A B : List HP} {X : HP} : Sat w (A ++ X :: B) ↔ Sat w (X :: (A ++ B)) :=
  ⟨fun h => h.perm List.perm_middle, fun h => h.perm List.perm_middle.symm⟩
theorem Grp.satMid {w : World} (A M R : List HP) : Sat w (A ++ Grp M :: R) ↔ Sat w (A ++ (M ++ R)) := by
  rw [Sat.mid, Grp.sat1]
  have p : (M ++ (A ++ R)).Perm (A ++ (M ++ R)) := by
    rw [← List.append_assoc, ← List.append_assoc]; exact List.perm_append_comm.append_right _
  exact ⟨fun h => h.perm p, fun h => h.perm p.symm⟩
/-- What lies beside a surface. -/
def Fo.gap (F : Fo) (k : Int) : HP := Grp [cel F.f 78 [.map (some F.mb)], imap F.mb (F.L.map Srf.ment) F.clock, F.rest k]
theorem srf_grp {w : World} (A : HP) (a b c : List HP) (x y z : HP) (R : List HP) : Sat w (A :: Grp a :: Grp b :: Grp c :: Grp [x, y, z] :: R) ↔ Sat w (A :: (a ++ b ++ c) ++ x :: y :: z :: R) := by
  rw [show A :: Grp a :: Grp b :: Grp c :: Grp [x, y, z] :: R = [A] ++ Grp a :: (Grp b :: Grp c :: Grp [x, y, z] :: R) from rfl, Grp.satMid,
    show [A] ++ (a ++ Grp b :: Grp c :: Grp [x, y, z] :: R) = ([A] ++ a) ++ Grp b :: (Grp c :: Grp [x, y, z] :: R) by simp, Grp.satMid,
    show ([A] ++ a) ++ (b ++ Grp c :: Grp [x, y, z] :: R) = ([A] ++ a ++ b) ++ Grp c :: (Grp [x, y, z] :: R) by simp, Grp.satMid,
    show ([A] ++ a ++ b) ++ (c ++ Grp [x, y, z] :: R) = ([A] ++ a ++ b ++ c) ++ Grp [x, y, z] :: R by simp, Grp.satMid]
  simp
theorem Fo.outG {w : World} {F : Fo} {R : List HP} {k : Int} {s : Srf} (hs : look F.L k = some s) (h : Sat w (F.hp :: R)) :
    Sat w (cel s.p 82 s.cells :: Grp s.pe.rows :: Grp s.ca.rows :: Grp s.cu.rows :: F.gap k :: R) :=
  (srf_grp _ _ _ _ _ _ _ _).2 (Fo.out hs h)
theorem Fo.backG {w : World} {F : Fo} {R : List HP} {k : Int} {s : Srf} (hs : look F.L k = some s) (t : Srf) (ht : t.ment = s.ment)
    (h : Sat w (cel t.p 82 t.cells :: Grp t.pe.rows :: Grp t.ca.rows :: Grp t.cu.rows :: F.gap k :: R)) : Sat w ((F.set k t).hp :: R) :=
  Fo.back hs ht ((srf_grp _ _ _ _ _ _ _ _).1 h)
/-- A forest of which so much is known. -/
theorem rds_grp {α : Type} {e : Enc α} {s : Sli α} {M : List HP} (hm : own e s ∈ M) {L : List HP} (hi : Inc L (Grp M)) (hw : ∃ w, Sat w L) : Rds L e s := by
  have h1 : Inc L (own e s) := fun w h => by
    have h2 := (hi w h).ungroup
    obtain ⟨A, B, rfl⟩ := List.append_of_mem hm
    have h3 : Sat w (own e s :: (A ++ B)) := (by simpa using h2 : Sat w (A ++ own e s :: B)).perm List.perm_middle
    exact Sat.left (L := [own e s]) h3
  exact h1.own hw
/-- A state's lists may be read. -/
structure RSt.Rd (L : List HP) (s : RSt) : Prop where
  da : Rds L encR s.da
  fr : Rds L encI s.fr
  re : Rds L encR s.re
  ol : Rds L encI s.ol
  pl : Rds L encC s.pl
theorem RSt.Rd.weak {L M : List HP} {s : RSt} (h : RSt.Rd L s) (hm : ∀ w, Sat w M → Sat w L) : RSt.Rd M s := ⟨h.da.weak hm, h.fr.weak hm, h.re.weak hm, h.ol.weak hm, h.pl.weak hm⟩
theorem RSt.Rd.there {L : List HP} {A : HP} {s : RSt} (h : RSt.Rd L s) : RSt.Rd (A :: L) s := h.weak fun _ h => h.drop
theorem RSt.Rd.zero {L : List HP} : RSt.Rd L .zero := ⟨.inl rfl, .inl rfl, .inl rfl, .inl rfl, .inl rfl⟩
theorem RSt.Rd.ofGrp {L : List HP} {s : RSt} (hi : Inc L (Grp s.rows)) (hw : ∃ w, Sat w L) : RSt.Rd L s :=
  ⟨rds_grp (by simp [RSt.rows]) hi hw, rds_grp (by simp [RSt.rows]) hi hw, rds_grp (by simp [RSt.rows]) hi hw, rds_grp (by simp [RSt.rows]) hi hw, rds_grp (by simp [RSt.rows]) hi hw⟩
/-- A surface's states may be read. -/
theorem Inc.rd {L : List HP} {F : Fo} (hi : Inc L F.hp) {k : Int} {s : Srf} (hs : look F.L k = some s) (hw : ∃ w, Sat w L) : RSt.Rd L s.pe ∧ RSt.Rd L s.ca ∧ RSt.Rd L s.cu := by
  have h1 : ∀ w, Sat w L → Sat w (cel s.p 82 s.cells :: Grp s.pe.rows :: Grp s.ca.rows :: Grp s.cu.rows :: F.gap k :: []) := fun w h => Fo.outG hs (hi w h)
  exact ⟨.ofGrp (fun w h => Sat.left (L := [_]) ((h1 w h).drop)) hw, .ofGrp (fun w h => Sat.left (L := [_]) ((h1 w h).drop.drop)) hw, .ofGrp (fun w h => Sat.left (L := [_]) ((h1 w h).drop.drop.drop)) hw⟩
/-- The errors' variables are there. -/
def CelH (L : List HP) (a : Addr) (v : Value) : Prop := ∀ w, Sat w L → w.cell? a = some v
theorem CelH.there {L : List HP} {a : Addr} {v : Value} {A : HP} (h : CelH L a v) : CelH (A :: L) a v := fun w hw => h w hw.drop
structure Gl (L : List HP) (p : Nat → Addr) : Prop where
  g : ∀ e : Er, CelH L ⟨e.g, 0, none⟩ (.iface 194 (.pointer (some (p e.g))))
theorem Gl.there {L : List HP} {p : Nat → Addr} {A : HP} (h : Gl L p) : Gl (A :: L) p := ⟨fun e => (h.g e).there⟩
theorem Gl.weak {L M : List HP} {p : Nat → Addr} (h : Gl L p) (hm : ∀ w, Sat w M → Sat w L) : Gl M p := ⟨fun e w hw => h.g e w (hm w hw)⟩
theorem Runs.loadG {P : Program} {n : Nat} {E : Env} {L : List HP} {ty : TypeId} {ps : String} {af : Array Edge} {gd : Option (Nat × Bool)} {d : Option Tmp} {T : TypeId} {x : Operand} {b off : Nat} {v : Value} (hx : Env.ev E x = some (.pointer (some ⟨b, off, none⟩)))
    (hT : Flat P T) (hc : CelH L ⟨b, off, none⟩ v) : Runs P n E L ⟨d, .load T x, ty, ps, af, gd⟩ v := fun a w hA hS => by
  have h1 := hc w hS
  simp [execOp, hA.ev hx, Instr.loadAt, Instr.sureAddr, loadVar, hT w, h1]
/-- Short enough. -/
structure RSt.Small (s : RSt) : Prop where
  da : s.da.xs.length ≤ 100000000
  fr : s.fr.xs.length ≤ 100000000
  re : s.re.xs.length ≤ 100000000
  ol : s.ol.xs.length ≤ 100000000
  pl : s.pl.xs.length ≤ 100000000
theorem RSt.Small.of {n : Nat} {s : RSt} (h : s.abs.wt ≤ n) (h2 : PSt.Lim n s.abs) (hn : n ≤ 1000000) : s.Small := by
  have h3 : s.da.xs.length + s.fr.xs.length + s.pl.xs.length ≤ n := h
  have h4 : s.ol.xs.length ≤ n + 1 := h2.1
  have h5 : s.re.xs.length ≤ n + 20 := h2.2
  exact ⟨by omega, by omega, by omega, by omega, by omega⟩
theorem Lim.small {n : Nat} {F : Fo} (h : Lim n F.abs) (hn : n ≤ 1000000) {k : Int} {s : Srf} (hs : look F.L k = some s) : s.pe.Small ∧ s.ca.Small ∧ s.cu.Small := by
  have hg := Fo.get_some hs
  have h1 := wt_get hg
  obtain ⟨h2, h3, h4⟩ := h.2 _ (get_mem hg)
  have h0 := h.1
  have h5 : s.abs.wt = s.pe.abs.wt + s.ca.abs.wt + s.cu.abs.wt := rfl
  exact ⟨.of (by omega) h2 hn, .of (by omega) h3 hn, .of (by omega) h4 hn⟩
/-- The latest order. -/
def Srf.lat (s : Srf) : Sli Int := if s.pe.ord then s.pe.ol else if s.ca.ord then s.ca.ol else s.cu.ol
theorem Srf.lat_abs (s : Srf) : s.lat.xs = s.abs.lat := by
  unfold Srf.lat Sur.lat
  show _ = if s.pe.ord then s.pe.ol.xs else if s.ca.ord then s.ca.ol.xs else s.cu.ol.xs
  split
  · rfl
  · split <;> rfl
/-- None; one by itself; one in another one. -/
theorem child_cases (F : Fo) (id : Int) : look F.L id = none ∨ (∃ s, look F.L id = some s ∧ s.parent = 0) ∨ ∃ s, look F.L id = some s ∧ s.parent ≠ 0 := by
  cases h : look F.L id with
  | none => exact .inl rfl
  | some s => by_cases e : s.parent = 0
              · exact .inr (.inl ⟨s, rfl, e⟩)
              · exact .inr (.inr ⟨s, rfl, e⟩)
/-- A new surface's place in the map. -/
theorem look_none_midx : ∀ {L : List Srf} {k : Int}, look L k = none → midx (L.map Srf.ment) k = none
  | [], k, _ => rfl
  | s :: L, k, h => by
    simp only [look] at h
    split at h
    · cases h
    · rename_i e
      simp only [List.map_cons, midx]
      rw [if_neg (by simpa [Srf.ment] using e), look_none_midx h]; rfl
def Fo.new (F : Fo) (s : Srf) : Fo := { F with clock := F.clock + 1, L := F.L ++ [s] }
theorem Fo.new_abs (F : Fo) (s : Srf) : (F.new s).abs = F.abs ++ [s.abs] := by simp [Fo.new, Fo.abs]
theorem Fo.new_hp {w : World} {F : Fo} {R : List HP} {s : Srf} (hn : look F.L s.id = none) (hb : s.born = F.clock) {M : List Ment} {c : Nat}
    (hM : M = mset (F.L.map Srf.ment) s.id (.pointer (some ⟨s.p, 0, none⟩)) F.clock) (hc : c = mclock (F.L.map Srf.ment) s.id F.clock)
    (h : Sat w (cel F.f 78 [.map (some F.mb)] :: imap F.mb M c :: s.hp :: (F.L.map Srf.hp ++ R))) : Sat w ((F.new s).hp :: R) := by
  have e1 : M = (F.new s).L.map Srf.ment := by rw [hM, mset, look_none_midx hn]; simp [Fo.new, Srf.ment, hb]
  have e2 : c = (F.new s).clock := by rw [hc, mclock, look_none_midx hn]; rfl
  subst e1; subst e2
  refine Sat.group (M := cel F.f 78 [.map (some F.mb)] :: imap F.mb ((F.new s).L.map Srf.ment) (F.new s).clock :: (F.new s).L.map Srf.hp) (h.perm ?_)
  refine List.Perm.cons _ (List.Perm.cons _ ?_)
  show (s.hp :: (F.L.map Srf.hp ++ R)).Perm ((F.L ++ [s]).map Srf.hp ++ R)
  rw [List.map_append, List.append_assoc]
  exact List.perm_middle.symm
theorem At.ret3 {P : Program} {n : Nat} {E : Env} {L : List HP} {fn : Func} {α : Type} {v : α → Value} {L' : α → List HP} {t u r : Nat} {v1 v2 v3 : Value} (x : α) (hr : fn.results = #[.tmp t, .tmp u, .tmp r]) (h1 : Env.get E t = some v1) (h2 : Env.get E u = some v2) (h3 : Env.get E r = some v3) (hv : v x = .tuple #[v1, v2, v3]) (hm : ∀ w, Sat w L → Sat w (L' x)) :
    At n E L (bodyPost P fn (Ret v L') .ret) := fun a w hA hS => ⟨hA.defers, v x, by rw [results_tmp3 hr, hA.getD h1, hA.getD h2, hA.getD h3, hv], x, rfl, hm w hS⟩
theorem Sat.in2 {w : World} {A B C D G X : HP} {R : List HP} (h : Sat w (A :: B :: C :: D :: G :: X :: R)) : Sat w (A :: X :: B :: C :: D :: G :: R) := h.b5.swap
theorem Sat.out2 {w : World} {A B C D G X : HP} {R : List HP} (h : Sat w (A :: X :: B :: C :: D :: G :: R)) : Sat w (A :: B :: C :: D :: G :: X :: R) :=
  h.swap.perm (List.perm_middle (l₁ := [A, B, C, D, G])).symm
theorem Sat.in3 {w : World} {A B C D G X : HP} {R : List HP} (h : Sat w (A :: B :: C :: D :: G :: X :: R)) : Sat w (A :: B :: X :: C :: D :: G :: R) :=
  h.b5.perm (List.perm_middle (l₁ := [A, B])).symm
theorem Sat.out3 {w : World} {A B C D G X : HP} {R : List HP} (h : Sat w (A :: B :: X :: C :: D :: G :: R)) : Sat w (A :: B :: C :: D :: G :: X :: R) :=
  h.b2.perm (List.perm_middle (l₁ := [A, B, C, D, G])).symm
theorem sub_fin {w : World} {A C D G : HP} {R : List HP} {m : RSt} {q : Sli Int} {r : Sli Ch} (h : Sat w (own encC r :: A :: Grp m.rows :: C :: D :: G :: own encI q :: R)) :
    Sat w (A :: Grp ({ m with ord := true, ol := q, pl := r } : RSt).rows :: C :: D :: G :: R) := by
  have h1 := (Grp.satMid [own encC r, A] m.rows (C :: D :: G :: own encI q :: R)).1 h
  refine (Grp.satMid [A] ({ m with ord := true, ol := q, pl := r } : RSt).rows _).2 ?_
  have h2 : Sat w (own encC r :: A :: own encR m.da :: own encI m.fr :: own encR m.re :: own encI m.ol :: own encC m.pl :: C :: D :: G :: own encI q :: R) := h1
  show Sat w (A :: own encR m.da :: own encI m.fr :: own encR m.re :: own encI q :: own encC r :: C :: D :: G :: R)
  exact Pick.sat (.cons (.there .here) (.cons (.there .here) (.cons (.there .here) (.cons (.there .here) (.cons (.there (.there (.there (.there (.there (.there .here)))))) (.cons .here (.drop (.drop .refl)))))))) h2
theorem RSt.zero_rows {w : World} {R : List HP} (h : Sat w R) : Sat w (RSt.zero.rows ++ R) :=
  Sat.toOwnNil (Sat.toOwnNil (Sat.toOwnNil (Sat.toOwnNil (Sat.toOwnNil h rfl rfl) rfl rfl) rfl rfl) rfl rfl) rfl rfl
theorem Fo.addOut {w : World} {F : Fo} {B : HP} {M R : List HP} (h : Sat w (B :: (M ++ F.hp :: R))) :
    Sat w (cel F.f 78 [.map (some F.mb)] :: imap F.mb (F.L.map Srf.ment) F.clock :: B :: Grp M :: Grp (F.L.map Srf.hp) :: R) := by
  have h1 : Sat w (F.hp :: ((B :: M) ++ R)) := Sat.mid.1 h
  have h2 := h1.ungroup
  refine (Grp.satMid [cel F.f 78 [.map (some F.mb)], imap F.mb (F.L.map Srf.ment) F.clock, B] M _).2 ?_
  refine (Grp.satMid ([cel F.f 78 [.map (some F.mb)], imap F.mb (F.L.map Srf.ment) F.clock, B] ++ M) (F.L.map Srf.hp) R).2 ?_
  refine h2.perm (List.Perm.cons _ (List.Perm.cons _ ?_))
  show (F.L.map Srf.hp ++ ((B :: M) ++ R)).Perm ((B :: M) ++ (F.L.map Srf.hp ++ R))
  rw [← List.append_assoc, ← List.append_assoc]
  exact List.perm_append_comm.append_right _
theorem Fo.addBack {w : World} {F : Fo} {R : List HP} {s : Srf} (hn : look F.L s.id = none) (hb : s.born = F.clock) (h1 : s.pe = .zero) (h2 : s.ca = .zero)
    (h : Sat w (cel F.f 78 [.map (some F.mb)] :: imap F.mb (mset (F.L.map Srf.ment) s.id (.pointer (some ⟨s.p, 0, none⟩)) F.clock) (mclock (F.L.map Srf.ment) s.id F.clock) :: cel s.p 82 s.cells :: Grp s.cu.rows :: Grp (F.L.map Srf.hp) :: R)) : Sat w ((F.new s).hp :: R) := by
  refine Fo.new_hp hn hb rfl rfl ?_
  have h3 := (Grp.satMid [cel F.f 78 [.map (some F.mb)], imap F.mb (mset (F.L.map Srf.ment) s.id (.pointer (some ⟨s.p, 0, none⟩)) F.clock) (mclock (F.L.map Srf.ment) s.id F.clock), cel s.p 82 s.cells] s.cu.rows _).1 h
  have h4 := (Grp.satMid ([cel F.f 78 [.map (some F.mb)], imap F.mb (mset (F.L.map Srf.ment) s.id (.pointer (some ⟨s.p, 0, none⟩)) F.clock) (mclock (F.L.map Srf.ment) s.id F.clock), cel s.p 82 s.cells] ++ s.cu.rows) (F.L.map Srf.hp) R).1 h3
  have h5 := RSt.zero_rows (RSt.zero_rows h4)
  refine (Grp.satMid [cel F.f 78 [.map (some F.mb)], imap F.mb (mset (F.L.map Srf.ment) s.id (.pointer (some ⟨s.p, 0, none⟩)) F.clock) (mclock (F.L.map Srf.ment) s.id F.clock)] (cel s.p 82 s.cells :: (s.pe.rows ++ s.ca.rows ++ s.cu.rows)) _).2 ?_
  rw [h1, h2]
  refine h5.perm ?_
  have e : RSt.zero.rows ++ (RSt.zero.rows ++ ([cel F.f 78 [.map (some F.mb)], imap F.mb (mset (F.L.map Srf.ment) s.id (.pointer (some ⟨s.p, 0, none⟩)) F.clock) (mclock (F.L.map Srf.ment) s.id F.clock), cel s.p 82 s.cells] ++ s.cu.rows ++ (F.L.map Srf.hp ++ R))) =
      (RSt.zero.rows ++ RSt.zero.rows) ++ ([cel F.f 78 [.map (some F.mb)], imap F.mb (mset (F.L.map Srf.ment) s.id (.pointer (some ⟨s.p, 0, none⟩)) F.clock) (mclock (F.L.map Srf.ment) s.id F.clock), cel s.p 82 s.cells] ++ (s.cu.rows ++ (F.L.map Srf.hp ++ R))) := by simp only [List.append_assoc]
  rw [e]
  have e2 : [cel F.f 78 [.map (some F.mb)], imap F.mb (mset (F.L.map Srf.ment) s.id (.pointer (some ⟨s.p, 0, none⟩)) F.clock) (mclock (F.L.map Srf.ment) s.id F.clock)] ++ (cel s.p 82 s.cells :: (RSt.zero.rows ++ RSt.zero.rows ++ s.cu.rows) ++ (F.L.map Srf.hp ++ R)) =
      [cel F.f 78 [.map (some F.mb)], imap F.mb (mset (F.L.map Srf.ment) s.id (.pointer (some ⟨s.p, 0, none⟩)) F.clock) (mclock (F.L.map Srf.ment) s.id F.clock), cel s.p 82 s.cells] ++ ((RSt.zero.rows ++ RSt.zero.rows) ++ (s.cu.rows ++ (F.L.map Srf.hp ++ R))) := by simp only [List.append_assoc, List.cons_append, List.nil_append]
  rw [e2]
  exact List.perm_append_comm_assoc _ _ _
theorem Fo.outR {w : World} {F : Fo} {M R : List HP} {k : Int} {s : Srf} (hs : look F.L k = some s) (h : Sat w (M ++ F.hp :: R)) :
    Sat w (cel s.p 82 s.cells :: Grp s.pe.rows :: Grp s.ca.rows :: Grp s.cu.rows :: F.gap k :: Grp M :: R) :=
  (Grp.satMid [_, _, _, _, _] M R).2 (Fo.outG hs ((Sat.mid (A := M) (X := F.hp) (B := R)).1 h))
theorem Fo.backAp {w : World} {F : Fo} {R : List HP} {k : Int} {s : Srf} (hs : look F.L k = some s) (r : RSt)
    (h : Sat w (cel s.p 82 ({ s with cu := r, ca := .zero } : Srf).cells :: Grp s.pe.rows :: Grp s.ca.rows :: Grp s.cu.rows :: F.gap k :: Grp r.rows :: R)) : Sat w ((F.set k { s with cu := r, ca := .zero }).hp :: R) := by
  refine Fo.backG hs { s with cu := r, ca := .zero } rfl ?_
  have h1 := (RSt.zero_rows (Pick.sat (M := cel s.p 82 ({ s with cu := r, ca := .zero } : Srf).cells :: Grp s.pe.rows :: Grp r.rows :: F.gap k :: R) (.cons .here (.cons .here (.cons (.there (.there (.there .here))) (.cons (.there (.there .here)) (.drop (.drop .refl)))))) h)).group
  exact Pick.sat (.cons (.there .here) (.cons (.there .here) (.cons .here (.cons .here (.cons .here .refl))))) h1
theorem Fo.backMe {w : World} {F : Fo} {R : List HP} {k : Int} {s : Srf} (hs : look F.L k = some s) (r : RSt)
    (h : Sat w (cel s.p 82 ({ s with ca := r, pe := .zero } : Srf).cells :: Grp s.pe.rows :: Grp s.ca.rows :: Grp s.cu.rows :: F.gap k :: Grp r.rows :: R)) : Sat w ((F.set k { s with ca := r, pe := .zero }).hp :: R) := by
  refine Fo.backG hs { s with ca := r, pe := .zero } rfl ?_
  have h1 := (RSt.zero_rows (Pick.sat (M := cel s.p 82 ({ s with ca := r, pe := .zero } : Srf).cells :: Grp r.rows :: Grp s.cu.rows :: F.gap k :: R) (.cons .here (.cons (.there (.there (.there (.there .here)))) (.cons (.there (.there .here)) (.cons (.there (.there .here)) (.drop (.drop .refl)))))) h)).group
  exact Pick.sat (.cons (.there .here) (.cons .here (.cons .here (.cons .here (.cons .here .refl))))) h1
theorem Has.fof' {F : Fo} {R : List HP} {f0 : Nat} (h : F.f = f0) : Has (F.hp :: R) f0 (.cells [.map (some F.mb)].toArray 78 (0, 0)) := by subst h; exact Has.fof
theorem Runs.fieldV {P : Program} {n : Nat} {E : Env} {L : List HP} {ty : TypeId} {ps : String} {af : Array Edge} {gd : Option (Nat × Bool)} {d : Option Tmp} {T : TypeId} {x : Operand} {f : Nat} {u v : Value} (hx : Env.ev E x = some u) (h : ∀ w, (Instr.field T u f).run P w = .ok v w) :
    Runs P n E L ⟨d, .field T x f, ty, ps, af, gd⟩ v := fun a w hA _ => by simp [execOp, hA.ev hx, h w]
def encB : Enc Bool := ⟨4, 1, fun b => [.bool b], fun _ => rfl, fun _ => rfl⟩
theorem wrap_range (x : Int) : -9223372036854775808 ≤ IntKind.i64.wrap x ∧ IntKind.i64.wrap x ≤ 9223372036854775807 := by
  simp only [IntKind.wrap, IntKind.signed, IntKind.bits, Bool.true_and]
  have h1 := Int.emod_nonneg x (by decide : (2 ^ 64 : Int) ≠ 0)
  have h2 := Int.emod_lt_of_pos x (by decide : (0 : Int) < 2 ^ 64)
  split <;> rename_i hh <;> simp at hh h1 h2 ⊢ <;> omega
theorem Runs.neSame {P : Program} {n : Nat} {E : Env} {L : List HP} {ty : TypeId} {ps : String} {af : Array Edge} {gd : Option (Nat × Bool)} {d : Option Tmp} {T T' : TypeId} {x y : Operand} {a : Int} (hx : Env.ev E x = some (.int .i64 a)) (hy : Env.ev E y = some (.int .i64 a)) :
    Runs P n E L ⟨d, .binOp .neq T x y T', ty, ps, af, gd⟩ (.bool false) := by
  have h := Runs.ne (P := P) (n := n) (L := L) (d := d) (T := T) (T' := T') (ty := ty) (ps := ps) (af := af) (gd := gd) hx hy
  rwa [show decide (a ≠ a) = false by simp] at h
theorem pAdd_arg {A : List Sur} {id : Int} (h : id < 1) : pAdd A id = (some .arg, A) := by simp [pAdd, h]
theorem pAdd_object {A : List Sur} {id : Int} (h : ¬ id < 1) {s : Sur} (hs : get A id = some s) : pAdd A id = (some .object, A) := by simp [pAdd, h, hs]
theorem pAdd_big {A : List Sur} {id : Int} (h : ¬ id < 1) (hs : get A id = none) (hl : (40 : Int) ≤ (A.length : Int)) : pAdd A id = (some .big, A) := by simp [pAdd, h, hs, hl]
theorem pAdd_ok {A : List Sur} {id : Int} (h : ¬ id < 1) (hs : get A id = none) (hl : ¬ (40 : Int) ≤ (A.length : Int)) : pAdd A id = (none, A ++ [⟨id, 0, false, PSt.zero, PSt.zero, PSt.first⟩]) := by simp [pAdd, h, hs, hl]
theorem pSync_none {A : List Sur} {id : Int} {on : Bool} (h : get A id = none) : pSync A id on = (some .object, A) := by simp [pSync, h]
theorem pSync_root {A : List Sur} {id : Int} {on : Bool} {s : Sur} (h : get A id = some s) (h0 : s.parent = 0) : pSync A id on = (some .role, A) := by simp [pSync, h, h0]
theorem pSync_ok {A : List Sur} {id : Int} {on : Bool} {s : Sur} (h : get A id = some s) (h0 : s.parent ≠ 0) : pSync A id on = (none, set A id { s with sync := on }) := by simp [pSync, h, h0]
theorem pTurn_none {A : List Sur} {id : Int} {g : PSt → PSt} (h : get A id = none) : pTurn A id g = (some .object, A) := by simp [pTurn, h]
theorem pTurn_ok {A : List Sur} {id : Int} {g : PSt → PSt} {s : Sur} (h : get A id = some s) : pTurn A id g = (none, set A id { s with pe := g s.pe }) := by simp [pTurn, h]
end Go.Proofs.Sl

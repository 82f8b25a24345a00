/- What a commit does, plainly: the walk down the orders. -/
import Derived.Test.YtlffcinkijlaiaaDoorSlOpen
namespace Go.Proofs.Sl
abbrev Cx := List Int × List Sur
/-- Is something cached? -/
def cn (s : Sur) : Nat := if s.ca.none = true then 0 else 1
def phi : List Sur → Nat
  | [] => 0
  | s :: A => cn s + phi A
theorem phi_set : ∀ {A : List Sur} {k : Int} {s : Sur}, get A k = some s → ∀ t, phi (set A k t) + cn s = phi A + cn t
  | [], k, s, h, _ => by simp [get] at h
  | u :: A, k, s, h, t => by
    simp only [get] at h
    simp only [set]
    split at h
    · rename_i e; simp at h; subst h; rw [if_pos e]; simp only [phi]; omega
    · rename_i e; rw [if_neg e]; have := phi_set h t; simp only [phi]; omega
theorem phi_le : ∀ A : List Sur, phi A ≤ A.length
  | [] => Nat.le_refl _
  | s :: A => by have := phi_le A; have : cn s ≤ 1 := by { unfold cn; split <;> omega }; simp only [phi, List.length_cons]; omega
/-- One of an order. -/
def stp (rk : Int → Nat) (f : Int → Cx → Cx) (x : Cx) (id : Int) : Cx := match get x.2 id with
  | .none => x
  | some t => if id = 0 then x else if syn x.2 rk id = false then x else f id (if t.ca.none = true then x.1 else x.1 ++ [id], x.2)
def apd (s : Sur) : Sur := { s with cu := s.cu.apply s.ca, ca := PSt.zero }
def appF (rk : Int → Nat) : Nat → Int → Cx → Cx
  | 0, _, x => x
  | n + 1, k, x => match get x.2 k with
    | .none => x
    | some s => (s.cu.apply s.ca).ol.foldl (stp rk (appF rk n)) (x.1, set x.2 k (apd s))
/-- A forest in order: ranks go up, below N; who is in an order is there in. -/
structure Tr (rk : Int → Nat) (N : Nat) (A : List Sur) : Prop where
  rank : Rk A rk
  top : ∀ k s, get A k = some s → rk k < N
  pos : ∀ k s, get A k = some s → 0 < k
  ord : ∀ k p, get A k = some p → ∀ id, id ∈ p.pe.ol ∨ id ∈ p.ca.ol ∨ id ∈ p.cu.ol → id ≠ 0 → ∀ s, get A id = some s → s.parent = k
theorem Tr.set {rk : Int → Nat} {N : Nat} {A : List Sur} (h : Tr rk N A) {k : Int} {s t : Sur} (hs : get A k = some s) (ht : t.id = k) (hp : t.parent = s.parent)
    (ho : ∀ id, id ∈ t.pe.ol ∨ id ∈ t.ca.ol ∨ id ∈ t.cu.ol → id = 0 ∨ id ∈ s.pe.ol ∨ id ∈ s.ca.ol ∨ id ∈ s.cu.ol) : Tr rk N (set A k t) := by
  have par : ∀ j u, get (Sl.set A k t) j = some u → ∃ v, get A j = some v ∧ v.parent = u.parent := fun j u hj => by
    rw [get_set hs t ht] at hj
    split at hj
    · rename_i e; subst e; cases hj; exact ⟨s, hs, hp.symm⟩
    · exact ⟨u, hj, rfl⟩
  refine ⟨fun j u hj hpos => ?_, fun j u hj => ?_, fun j u hj => ?_, fun j u hj id hid h0 v hv => ?_⟩
  · obtain ⟨v, hv, e⟩ := par j u hj; rw [← e] at hpos ⊢; exact h.rank j v hv hpos
  · obtain ⟨v, hv, e⟩ := par j u hj; exact h.top j v hv
  · obtain ⟨v, hv, e⟩ := par j u hj; exact h.pos j v hv
  · obtain ⟨v', hv', e⟩ := par id v hv
    rw [← e]
    rw [get_set hs t ht] at hj
    split at hj
    · rename_i e'; subst e'; cases hj
      rcases ho id hid with h1 | h1
      · exact absurd h1 h0
      · exact h.ord j s hs id h1 h0 v' hv'
    · exact h.ord j u hj id hid h0 v' hv'
theorem apply_ol (a b : PSt) : (a.apply b).ol = if b.ord then b.ol else a.ol := rfl
theorem apd_ord (s : Sur) (id : Int) : id ∈ (apd s).pe.ol ∨ id ∈ (apd s).ca.ol ∨ id ∈ (apd s).cu.ol → id = 0 ∨ id ∈ s.pe.ol ∨ id ∈ s.ca.ol ∨ id ∈ s.cu.ol := by
  intro h
  rcases h with h | h | h
  · exact .inr (.inl h)
  · cases h
  · have h' : id ∈ (s.cu.apply s.ca).ol := h
    rw [apply_ol] at h'
    split at h'
    · exact .inr (.inr (.inl h'))
    · exact .inr (.inr (.inr h'))
theorem apply_wt (a b : PSt) : (a.apply b).wt ≤ a.wt + b.wt := by
  have h1 := puts_length a.pl b.pl
  show 0 + (a.fr ++ b.fr).length + (puts a.pl b.pl).length ≤ _
  simp only [List.length_append, PSt.wt]; omega
theorem apply_lim {n : Nat} {a b : PSt} (ha : a.Lim n) (hb : b.Lim n) : (a.apply b).Lim n := by
  constructor
  · rw [apply_ol]; split
    · exact hb.1
    · exact ha.1
  · show (if b.inp then b.re else a.re).length ≤ _
    split
    · exact hb.2
    · exact ha.2
theorem zero_lim {n : Nat} : PSt.zero.Lim n := ⟨Nat.zero_le _, Nat.zero_le _⟩
theorem apd_lim {m : Nat} {A : List Sur} (h : Lim m A) {k : Int} {s : Sur} (hs : get A k = some s) : Lim m (set A k (apd s)) := by
  obtain ⟨h1, h2, h3⟩ := h.2 s (get_mem hs)
  refine h.set hs (Nat.le_refl _) ?_ ⟨h1, zero_lim, apply_lim h3 h2⟩
  have := apply_wt s.cu s.ca
  show m + (s.pe.wt + 0 + (s.cu.apply s.ca).wt) ≤ m + (s.pe.wt + s.ca.wt + s.cu.wt)
  omega
structure Res (rk : Int → Nat) (N m B : Nat) (X : Cx) : Prop where
  tr : Tr rk N X.2
  lim : Lim m X.2
  len : X.1.length + phi X.2 ≤ B
def AppOk (rk : Int → Nat) (N m n : Nat) : Prop := ∀ k x s B, get x.2 k = some s → N - rk k ≤ n → Tr rk N x.2 → Lim m x.2 → x.1.length + phi x.2 ≤ B + cn s →
  Res rk N m B (appF rk n k x) ∧ ∀ j, rk j ≤ rk k → j ≠ k → get (appF rk n k x).2 j = get x.2 j
/-- A child comes behind. -/
theorem Tr.child {rk : Int → Nat} {N : Nat} {A : List Sur} (h : Tr rk N A) {k id : Int} {p s : Sur} (hp : get A k = some p) (hid : id ∈ p.cu.ol) (h0 : id ≠ 0) (hs : get A id = some s) : rk k < rk id := by
  have e := h.ord k p hp id (.inr (.inr hid)) h0 s hs
  have := h.rank id s hs (by rw [e]; exact h.pos k p hp)
  rwa [e] at this
theorem stp_ok {rk : Int → Nat} {N m n : Nat} (ih : AppOk rk N m n) {k : Int} {p : Sur} {B : Nat} {id : Int} {x : Cx} (hk : N - rk k ≤ n + 1) (hp : get x.2 k = some p) (hid : id ∈ p.cu.ol) (hx : Res rk N m B x) :
    Res rk N m B (stp rk (appF rk n) x id) ∧ ∀ j, rk j ≤ rk k → get (stp rk (appF rk n) x id).2 j = get x.2 j := by
  unfold stp
  split
  · exact ⟨hx, fun _ _ => rfl⟩
  · rename_i t ht
    split
    · exact ⟨hx, fun _ _ => rfl⟩
    · rename_i h0
      split
      · exact ⟨hx, fun _ _ => rfl⟩
      · have hrk := hx.tr.child hp hid h0 ht
        have hl := hx.len
        obtain ⟨h1, h2⟩ := ih id (if t.ca.none = true then x.1 else x.1 ++ [id], x.2) t B ht (by omega) hx.tr hx.lim (by
          unfold cn; simp only []; split
          · omega
          · simp only [List.length_append, List.length_cons, List.length_nil]; omega)
        exact ⟨h1, fun j hj => h2 j (by omega) (by rintro rfl; omega)⟩
theorem fold_ok {rk : Int → Nat} {N m n : Nat} (ih : AppOk rk N m n) {k : Int} {p : Sur} {B : Nat} (hk : N - rk k ≤ n + 1) : ∀ (ids : List Int) (x : Cx), (∀ id ∈ ids, id ∈ p.cu.ol) → get x.2 k = some p → Res rk N m B x →
    Res rk N m B (ids.foldl (stp rk (appF rk n)) x) ∧ ∀ j, rk j ≤ rk k → get (ids.foldl (stp rk (appF rk n)) x).2 j = get x.2 j
  | [], x, _, _, hx => ⟨hx, fun _ _ => rfl⟩
  | id :: ids, x, hi, hp, hx => by
    obtain ⟨h1, h2⟩ := stp_ok ih hk hp (hi id (List.mem_cons_self ..)) hx
    obtain ⟨h3, h4⟩ := fold_ok ih hk ids (stp rk (appF rk n) x id) (fun j hj => hi j (List.mem_cons_of_mem _ hj)) (by rw [h2 k (Nat.le_refl _)]; exact hp) h1
    exact ⟨h3, fun j hj => (h4 j hj).trans (h2 j hj)⟩
theorem apd_id {A : List Sur} {k : Int} {s : Sur} (h : get A k = some s) : (apd s).id = k := get_id (s := s) h
theorem apd_res {rk : Int → Nat} {N m B : Nat} {k : Int} {x : Cx} {s : Sur} (hs : get x.2 k = some s) (ht : Tr rk N x.2) (hl : Lim m x.2) (hb : x.1.length + phi x.2 ≤ B + cn s) : Res rk N m B (x.1, set x.2 k (apd s)) := by
  refine ⟨ht.set hs (apd_id hs) rfl (apd_ord s), apd_lim hl hs, ?_⟩
  have h1 := phi_set hs (apd s)
  have h2 : cn (apd s) = 0 := rfl
  show x.1.length + phi (set x.2 k (apd s)) ≤ B
  omega
theorem app_ok (rk : Int → Nat) (N m : Nat) : ∀ n, AppOk rk N m n
  | 0 => fun k x s B hs hk ht _ _ => by have := ht.top k s hs; omega
  | n + 1 => fun k x s B hs hk ht hl hb => by
    have hr := apd_res hs ht hl hb
    have hp : get (set x.2 k (apd s)) k = some (apd s) := by rw [get_set hs _ (apd_id hs), if_pos rfl]
    obtain ⟨h1, h2⟩ := fold_ok (app_ok rk N m n) hk (s.cu.apply s.ca).ol (x.1, set x.2 k (apd s)) (fun _ h => h) hp hr
    have e : appF rk (n + 1) k x = (s.cu.apply s.ca).ol.foldl (stp rk (appF rk n)) (x.1, set x.2 k (apd s)) := by simp only [appF, hs]
    rw [e]
    exact ⟨h1, fun j hj hne => (h2 j hj).trans (by show get (set x.2 k (apd s)) j = _; rw [get_set hs _ (apd_id hs), if_neg hne])⟩
theorem foldl_take {α β : Type} (f : α → β → α) (x : α) (l : List β) (i : Nat) (h : i < l.length) : (l.take (i + 1)).foldl f x = f ((l.take i).foldl f x) l[i] := by
  rw [List.take_succ_eq_append_getElem h, List.foldl_append]; rfl
section
variable {rk : Int → Nat} {f : Int → Cx → Cx} {x : Cx} {id : Int}
theorem stp_none (h : get x.2 id = none) : stp rk f x id = x := by simp [stp, h]
theorem stp_zero (h : id = 0) : stp rk f x id = x := by unfold stp; split <;> simp [h]
theorem stp_free (h : syn x.2 rk id = false) : stp rk f x id = x := by unfold stp; split <;> simp [h]
theorem stp_quiet {t : Sur} (ht : get x.2 id = some t) (h0 : ¬ id = 0) (h : syn x.2 rk id = true) (hq : t.ca.none = true) : stp rk f x id = f id x := by simp [stp, ht, h0, h, hq]
theorem stp_told {t : Sur} (ht : get x.2 id = some t) (h0 : ¬ id = 0) (h : syn x.2 rk id = true) (hq : t.ca.none = false) : stp rk f x id = f id (x.1 ++ [id], x.2) := by simp [stp, ht, h0, h, hq]
end
/-! ### The whole -/
def med (s : Sur) : Sur := { s with ca := s.ca.merge s.pe, pe := PSt.zero }
structure Cmt where
  er : Option Er
  l : List Int
  A : List Sur
def pCommit (A : List Sur) (rk : Int → Nat) (N : Nat) (id : Int) : Cmt := match get A id with
  | .none => ⟨some .object, [], A⟩
  | some s => if syn (set A id (med s)) rk id = true then ⟨none, [], set A id (med s)⟩ else
    let x := appF rk N id ([id], set A id (med s)); ⟨none, x.1, x.2⟩
theorem merge_wt (a b : PSt) : (a.merge b).wt ≤ a.wt + b.wt := by
  have h1 := puts_length a.pl b.pl
  show (a.da ++ b.da).length + (a.fr ++ b.fr).length + (puts a.pl b.pl).length ≤ _
  simp only [List.length_append, PSt.wt]; omega
theorem merge_ol (a b : PSt) : (a.merge b).ol = if b.ord then b.ol else a.ol := rfl
theorem merge_lim {n : Nat} {a b : PSt} (ha : a.Lim n) (hb : b.Lim n) : (a.merge b).Lim n := by
  constructor
  · rw [merge_ol]; split
    · exact hb.1
    · exact ha.1
  · show (if b.inp then b.re else a.re).length ≤ _
    split
    · exact hb.2
    · exact ha.2
theorem med_lim {m : Nat} {A : List Sur} (h : Lim m A) {k : Int} {s : Sur} (hs : get A k = some s) : Lim m (set A k (med s)) := by
  obtain ⟨h1, h2, h3⟩ := h.2 s (get_mem hs)
  refine h.set hs (Nat.le_refl _) ?_ ⟨zero_lim, merge_lim h2 h1, h3⟩
  have := merge_wt s.ca s.pe
  show m + (0 + (s.ca.merge s.pe).wt + s.cu.wt) ≤ m + (s.pe.wt + s.ca.wt + s.cu.wt)
  omega
theorem med_tr {rk : Int → Nat} {N : Nat} {A : List Sur} (h : Tr rk N A) {k : Int} {s : Sur} (hs : get A k = some s) : Tr rk N (set A k (med s)) := by
  refine h.set hs (show (med s).id = k from get_id (s := s) hs) rfl fun id hid => ?_
  rcases hid with h | h | h
  · cases h
  · have h' : id ∈ (s.ca.merge s.pe).ol := h
    rw [merge_ol] at h'
    split at h'
    · exact .inr (.inl h')
    · exact .inr (.inr (.inl h'))
  · exact .inr (.inr (.inr h))
end Go.Proofs.Sl

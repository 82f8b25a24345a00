/- From the memory that is held to what a row asks: what stood stands. -/
import Derived.Test.YtlffcinkijlaiaaDoorSlOpen
import GoSem.ClaimChange
import Derived.WideKeyArgs
import Derived.ChangeSame
import Derived.RowKit
namespace Go.Proofs.Sl
open Go
theorem kept_of {W W' : World} (h : Sat W' [Old W]) (may : MemPlace → Prop) : World.keptBut W W' may := by
  have hs := h.oldSig
  refine ⟨congrArg Sig.os hs, congrArg Sig.output hs, fun i hi => ?_⟩
  obtain ⟨o, ho⟩ : ∃ o, W.heap[i]? = some o := ⟨W.heap[i], by simp [hi]⟩
  have ho' := h.old ho
  rw [ho, ho']
  cases o <;> simp
theorem cell_of {W W' : World} (h : Sat W' [Old W]) {a : Addr} {v : Value} (hc : W.cell? a = some v) : W'.cell? a = some v := by
  unfold World.cell? at hc ⊢
  cases hb : W.heap[a.block]? with
  | none => simp [hb] at hc
  | some o => rw [hb] at hc; rw [h.old hb]; exact hc
theorem celH_old {W : World} {a : Addr} {v : Value} (hc : W.cell? a = some v) : CelH [Old W] a v := fun _ hw => cell_of hw hc
/-- An argument's slice may be read: its address may bear a spot. -/
def RdA {α : Type} (L : List HP) (e : Enc α) (s : Sli α) : Prop :=
  s.xs = [] ∨ ∃ a, s.a = some a ∧ ∀ w, Sat w L → ∀ j v, (e.flat s.xs)[j]? = some v → w.cell? (a.add j) = some v
theorem RdA.weak {α : Type} {L L' : List HP} {e : Enc α} {s : Sli α} (h : RdA L e s) (hm : ∀ w, Sat w L' → Sat w L) : RdA L' e s := by
  rcases h with h | ⟨a, ha, hc⟩
  · exact .inl h
  · exact .inr ⟨a, ha, fun w hw => hc w (hm w hw)⟩
theorem RdA.at {α : Type} {L : List HP} {e : Enc α} {s : Sli α} (h : RdA L e s) {i : Nat} (hi : i < s.xs.length) : ∃ a, s.a = some a := by
  rcases h with h | ⟨a, ha, _⟩
  · rw [h] at hi; simp at hi
  · exact ⟨a, ha⟩
section
variable {P : Program} {n : Nat} {Q : Exit → Act → World → Prop} {E : Env} {L : List HP} {ops : Array Oper} {rest : List Oper}
variable {ty : TypeId} {ps : String} {af : Array Edge} {gd : Option (Nat × Bool)}
theorem Runs.indexA {d : Option Tmp} {T el k : TypeId} {x y : Operand} {a : Addr} {len cap i : Nat} {ii : Int} (hT : ∀ w, (underlying T).run P w = .ok (.slice el) w) (hs : ∀ w, (sizeOf el).run P w = .ok k w)
    (hx : Env.ev E x = some (.slice (some a) len cap)) (hy : Env.ev E y = some (.int .i64 ii)) (hi : ii = (i : Int)) (hl : i < len) :
    Runs P n E L ⟨d, .indexAddr T x y, ty, ps, af, gd⟩ (.pointer (some (a.add (i * k)))) := fun c w hA _ => by
  subst hi
  have h1 : (0 : Int) ≤ (i : Int) ∧ (i : Int) < (len : Int) := ⟨by omega, by omega⟩
  simp [execOp, hA.ev hx, hA.ev hy, Instr.indexAt, asIntOf, hT w, h1, hs w]
  omega
theorem Runs.loadA {α : Type} {d : Option Tmp} {T : TypeId} {x : Operand} {e : Enc α} {s : Sli α} {a : Addr} {i : Nat} {z : α} {v : Value} (hx : Env.ev E x = some (.pointer (some (a.add (i * e.sz)))))
    (hT : Flat P T) (hr : RdA L e s) (ha : s.a = some a) (hz : s.xs[i]? = some z) (hv : (e.f z)[0]? = some v) : Runs P n E L ⟨d, .load T x, ty, ps, af, gd⟩ v := fun c w hA hS => by
  rcases hr with hn | ⟨a', ha', hc⟩
  · rw [hn] at hz; simp at hz
  · rw [ha] at ha'; cases ha'
    have h1 := hc w hS _ _ (e.flat_get s.xs i 0 z v hz hv)
    simp only [Nat.add_zero] at h1
    simp [execOp, hA.ev hx, Instr.loadAt, Instr.sureAddr, loadVar, hT w, h1]
end
theorem same_of {W W' : World} (h : Sat W' [Old W]) (p : MemPlace) (hp : p.block < W.heap.size) : W.sameAt W' p := by
  cases p with
  | cell b off =>
    obtain ⟨o, ho⟩ : ∃ o, W.heap[b]? = some o := ⟨W.heap[b]'hp, Array.getElem?_eq_getElem hp⟩
    show W'.cell? ⟨b, off, none⟩ = W.cell? ⟨b, off, none⟩
    unfold World.cell?
    rw [ho, h.old ho]
  | map b =>
    obtain ⟨o, ho⟩ : ∃ o, W.heap[b]? = some o := ⟨W.heap[b]'hp, Array.getElem?_eq_getElem hp⟩
    show W'.heap[b]? = W.heap[b]?
    rw [ho, h.old ho]
/-- The arguments read as they did. -/
theorem all_stays {H : Type} {enc : TypeId × Value → H} {P : Program} (hl : laidOutB P = true) {W W' : World} (hS : Sat W' [Old W]) {sp' : Nat → Bool} :
    ∀ {ts : List TypeId} {vs : List Value} {ds : List (DataW H)} {ps : List MemPlace}, (∀ t ∈ ts, P.readableRec t = true ∧ t < P.types.size) → (∀ p ∈ ps, p.block < W.heap.size) → (∀ p ∈ ps, sp' p.block = true) →
    DataW.TrodAll enc P W 0 (fun _ => true) true ts vs ds ps → DataW.TrodAll enc P W' 0 sp' true ts vs ds ps
  | [], [], [], _, _, _, _, h => h
  | t :: _, _ :: _, _ :: _, _, hr, hb, hs, ⟨p, q, h, hrest, e⟩ => by
    subst e
    exact ⟨p, q, Go.WideElems.Trod_stays hl (hr t (List.mem_cons_self ..)).1 (hr t (List.mem_cons_self ..)).2 h (fun x hx => same_of hS x (hb x (List.mem_append_left _ hx))) (fun x hx => hs x (List.mem_append_left _ hx)),
      all_stays hl hS (fun u hu => hr u (List.mem_cons_of_mem _ hu)) (fun x hx => hb x (List.mem_append_right _ hx)) (fun x hx => hs x (List.mem_append_right _ hx)) hrest, rfl⟩
end Go.Proofs.Sl

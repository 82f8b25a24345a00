/- A law that returns true and leaves its arguments: what its row's post-condition asks. -/
import Derived.Test.YtlffcinkijlaiaaDoorSlRow
import Derived.ChangeOld
import Derived.ChangeShapes
import Derived.Deep.Grids
namespace Go.Proofs.Sl
set_option linter.unusedVariables false
open Go Go.ChangeShapes Go.WideShapes Go.RowKit Go.Deep
theorem all_lt {H : Type} {enc : TypeId × Value → H} {P : Program} {W : World} {base : Nat} {sp : Nat → Bool} {held : Bool} :
    ∀ {ts : List TypeId} {vs : List Value} {ds : List (DataW H)} {ps : List MemPlace}, DataW.TrodAll enc P W base sp held ts vs ds ps → ∀ p ∈ ps, p.block < W.heap.size
  | [], [], [], _, h => by cases (show _ = _ from h); simp
  | _ :: _, _ :: _, _ :: _, _, ⟨p, q, ⟨n, h⟩, hrest, e⟩ => by
    subst e
    intro x hx
    rcases List.mem_append.1 hx with hx | hx
    · exact DataW.trod_lt n _ _ _ h x hx
    · exact all_lt hrest x hx
theorem all_len {H : Type} {enc : TypeId × Value → H} {P : Program} {W : World} {base : Nat} {sp : Nat → Bool} {held : Bool} :
    ∀ {ts : List TypeId} {vs : List Value} {ds : List (DataW H)} {ps : List MemPlace}, DataW.TrodAll enc P W base sp held ts vs ds ps → ds.length = ts.length
  | [], [], [], _, _ => rfl
  | _ :: _, _ :: _, _ :: _, _, ⟨_, _, _, hrest, _⟩ => by simp [all_len hrest]
/-- The post-condition of a law that returned true in a world in which all that stood stands. -/
theorem post_true {H : Type} {enc : TypeId × Value → H} {P : Program} {f : Func} {s : ChangeSpec} (hl : laidOutB P = true) (hv : s.vars = []) (hfn : ∀ ds, ds.length = f.params.toList.length → s.fn H ds = { results := [.lit (.bool true)], args := ds, vars := [] })
    {tb : TypeId} (hres : f.resultTypes = #[tb]) (htb : P.underlying tb = some .bool) (hp' : (f.params.toList.all fun t => P.readableRec t && Nat.blt t P.types.size) = true) {W W' : World} {args : Array Value} {ds gs : List (DataW H)} {before : List MemPlace}
    (hW : DataW.Whole enc P f.params.toList s.vars false W args.toList ds gs before) (hS : Sat W' [Old W]) : s.post enc P f false true false false W args (.bool true) W' := by
  have hp : ∀ t ∈ f.params.toList, P.readableRec t = true ∧ t < P.types.size := fun t ht => by
    have := List.all_eq_true.1 hp' t ht
    simp only [Bool.and_eq_true, Nat.blt_eq] at this
    exact this
  have hW' := hW
  obtain ⟨p, q, hA, hV, rfl, hfz, hnd⟩ := hW
  rw [hv] at hV
  obtain ⟨rfl, rfl⟩ := trodVars_none hV
  have hlt := all_lt hA
  have hlen := all_len hA
  refine ⟨ds, [], _, [], p, [], hW', ?_, ?_, ?_, kept_of hS _, fun h => by cases h⟩
  · rw [List.append_nil, hfn ds hlen, hres]
    exact trodAll_mk1 (shut_bool htb true)
  · rw [List.append_nil, hfn ds hlen]
    exact all_stays hl hS hp hlt (fun x hx => by simpa using hlt x hx) hA
  · rw [List.append_nil, hfn ds hlen, hv]
    rfl
/-- A slice of bools that came in. -/
theorem sli_bools {H : Type} {enc : TypeId × Value → H} {P : Program} {W : World} {base : Nat} {held : Bool} {t e : TypeId} (ht : P.underlying t = some (.slice e)) (he : P.underlying e = some .bool) (hc : P.cellsOf e = 1) {v : Value} {d : DataW H} {ps : List MemPlace}
    (hok : ∃ a l c, v = .slice a l c) (h : DataW.Trod enc P W base (fun _ => true) held t v d ps) (eB : Enc Bool) (hsz : eB.sz = 1) (hf : ∀ b, eB.f b = [.bool b]) : ∃ on : Sli Bool, v = on.v ∧ RdA [Old W] eB on ∧ on.xs.length ≤ maxLen := by
  obtain ⟨a, l, c, rfl⟩ := hok
  obtain ⟨n, hn⟩ := h
  rcases open_bools ht he hc hn with ⟨e1, _⟩ | ⟨a', len, cap, B, e1, hb, hl, hm, _, hcell⟩
  · cases e1
    exact ⟨.nil, rfl, .inl rfl, Nat.zero_le _⟩
  · cases e1
    refine ⟨⟨some a', c, (List.range l).map B⟩, by simp [Sli.v], .inr ⟨a', rfl, fun w hw j v hv => ?_⟩, by simp; omega⟩
    have e2 : ∀ xs : List Bool, eB.flat xs = xs.map Value.bool := by
      intro xs
      induction xs with
      | nil => rfl
      | cons x xs ih => simp only [Enc.flat, List.flatMap_cons, hf, List.map_cons] at ih ⊢; rw [ih]; rfl
    rw [e2] at hv
    have hj : j < l := by
      rcases Nat.lt_or_ge j l with h | h
      · exact h
      · rw [List.getElem?_eq_none (by simpa using h)] at hv; cases hv
    simp [hj] at hv
    subst hv
    exact cell_of hw (hcell j (by omega))
end Go.Proofs.Sl

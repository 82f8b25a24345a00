/- What the listed variables hold, for a walk: five errors, each of its own. -/
import Derived.Test.YtlffcinkijlaiaaDoorRows
import Derived.Test.YtlffcinkijlaiaaDoorSlRow
import Derived.ChangeSame
import Derived.ChangeVars
import Derived.JoinedOf
import Derived.RowKit
import Derived.RowKitTokens
import Derived.LaidLaws
import Derived.LaidMore
import Derived.Stop.ErrReads
import Derived.Stop.Joined
import Derived.Deep.Grids
namespace Go.Proofs.YtlffcinkijlaiaaDoor
open Go Go.ChangeShapes Go.WideShapes Go.RowKit
theorem laidOut : laidOutB Tryd.prog = true := by kernel_rfl
theorem own : ownKnob Tryd.prog.godebug = none := by kernel_rfl
theorem gArg : Tryd.prog.globalNamed "tableau/api.ErrArg" = some 0 := by kernel_rfl
theorem gBig : Tryd.prog.globalNamed "tableau/api.ErrBig" = some 2 := by kernel_rfl
theorem gObject : Tryd.prog.globalNamed "tableau/api.ErrObject" = some 1 := by kernel_rfl
theorem gRole : Tryd.prog.globalNamed "tableau/api.ErrRole" = some 3 := by kernel_rfl
theorem gPlace : Tryd.prog.globalNamed "tableau/api.ErrPlace" = some 4 := by kernel_rfl
theorem tArg : (Tryd.prog.globals[0]?).map (·.type) = some 26 := by kernel_rfl
theorem tBig : (Tryd.prog.globals[2]?).map (·.type) = some 26 := by kernel_rfl
theorem tObject : (Tryd.prog.globals[1]?).map (·.type) = some 26 := by kernel_rfl
theorem tRole : (Tryd.prog.globals[3]?).map (·.type) = some 26 := by kernel_rfl
theorem tPlace : (Tryd.prog.globals[4]?).map (·.type) = some 26 := by kernel_rfl
theorem cellsES : Tryd.prog.cellsOf 219 = 1 := by kernel_rfl
theorem cellsS : Tryd.prog.cellsOf 9 = 1 := by kernel_rfl
theorem starE : "*" ++ "errors.errorString" = "*errors.errorString" := by decide
theorem rowE (u : TypeId) (h : Tryd.prog.typeName? 3 u = some "*errors.errorString") : u = 194 :=
  typeName_ptr_named (nm := "errors.errorString") (by rw [starE]; kernel_rfl) (by kernel_rfl) (by decide) u (by rw [starE]; exact h)
set_option maxRecDepth 100000 in
/-- One of the listed: its cell. -/
theorem one_err {H : Type} {enc : TypeId × Value → H} {W : World} {sp : Nat → Bool} {n : String} {g : Nat} {cs : Array Value} {f : Nat} {str : List UInt8} {p0 : List MemPlace} (hn : Tryd.prog.globalNamed n = some g) (hv : W.var? Tryd.prog n = some cs)
    (hd : DataW.trod enc Tryd.prog W 0 sp false f 26 cs.toList = some (.iface "*errors.errorString" (.ptr (.agg [.lit (.string str)])), p0))
    (ok : ∀ u v, cs.toList = [.iface u v] → Value.okWide Tryd.prog W .any 0 u v) : ∃ a : Addr, W.cell? ⟨g, 0, none⟩ = some (.iface 194 (.pointer (some a))) := by
  obtain ⟨l0⟩ := cs
  obtain ⟨a0, s0, rfl, _⟩ := errorString_of_trod Tryd.underlying26 rowE Tryd.underlying194 Tryd.underlying219 rfl rfl Tryd.underlying9 cellsES cellsS hd ok
  exact ⟨a0, by simpa using World.var?_cell hn hv 0⟩
theorem size_of {cs : Array Value} {x : Value} (e : cs.toList = [x]) : 0 < cs.size := by rw [← Array.length_toList, e]; simp
def laid5 {H : Type} : List (String × DataW H) := [("tableau/api.ErrArg", Rows.laid_tableau_api_ErrArg), ("tableau/api.ErrBig", Rows.laid_tableau_api_ErrBig), ("tableau/api.ErrObject", Rows.laid_tableau_api_ErrObject), ("tableau/api.ErrRole", Rows.laid_tableau_api_ErrRole), ("tableau/api.ErrPlace", Rows.laid_tableau_api_ErrPlace)]
set_option maxRecDepth 100000 in
/-- The five errors. -/
theorem errs_of_laid {W : World} (h : laidMetH Tryd.prog laid5 W) : ∃ p : Nat → Addr, ∀ e : Sl.Er, W.cell? ⟨e.g, 0, none⟩ = some (.iface 194 (.pointer (some (p e.g)))) := by
  rw [MakeChecks.laidMetH_plain _ _ _ (by kernel_rfl)] at h
  obtain ⟨ps, ⟨g0, t0, cs0, f0, p0, q0, hg0, ht0, hv0, hd0, ⟨g1, t1, cs1, f1, p1, q1, hg1, ht1, hv1, hd1, ⟨g2, t2, cs2, f2, p2, q2, hg2, ht2, hv2, hd2, ⟨g3, t3, cs3, f3, p3, q3, hg3, ht3, hv3, hd3, ⟨g4, t4, cs4, f4, p4, q4, hg4, ht4, hv4, hd4, hq, e4⟩, e3⟩, e2⟩, e1⟩, e0⟩, hnd, hrows⟩ := h
  have hq' : q4 = [] := hq
  subst hq'
  subst e4
  subst e3
  subst e2
  subst e1
  subst e0
  obtain rfl := Option.some.inj (gArg.symm.trans hg0)
  obtain rfl := Option.some.inj (tArg.symm.trans ht0)
  obtain rfl := Option.some.inj (gBig.symm.trans hg1)
  obtain rfl := Option.some.inj (tBig.symm.trans ht1)
  obtain rfl := Option.some.inj (gObject.symm.trans hg2)
  obtain rfl := Option.some.inj (tObject.symm.trans ht2)
  obtain rfl := Option.some.inj (gRole.symm.trans hg3)
  obtain rfl := Option.some.inj (tRole.symm.trans ht3)
  obtain rfl := Option.some.inj (gPlace.symm.trans hg4)
  obtain rfl := Option.some.inj (tPlace.symm.trans ht4)
  obtain ⟨a0, h0⟩ := one_err gArg hv0 hd0 (fun u v e => (hrows 0 0 (by simp [MemPlace.row, size_of e])).2 u v (by have := World.var?_cell gArg hv0 0; obtain ⟨l⟩ := cs0; subst e; simpa using this))
  obtain ⟨a1, h1⟩ := one_err gBig hv1 hd1 (fun u v e => (hrows 2 0 (by simp [MemPlace.row, size_of e])).2 u v (by have := World.var?_cell gBig hv1 0; obtain ⟨l⟩ := cs1; subst e; simpa using this))
  obtain ⟨a2, h2⟩ := one_err gObject hv2 hd2 (fun u v e => (hrows 1 0 (by simp [MemPlace.row, size_of e])).2 u v (by have := World.var?_cell gObject hv2 0; obtain ⟨l⟩ := cs2; subst e; simpa using this))
  obtain ⟨a3, h3⟩ := one_err gRole hv3 hd3 (fun u v e => (hrows 3 0 (by simp [MemPlace.row, size_of e])).2 u v (by have := World.var?_cell gRole hv3 0; obtain ⟨l⟩ := cs3; subst e; simpa using this))
  obtain ⟨a4, h4⟩ := one_err gPlace hv4 hd4 (fun u v e => (hrows 4 0 (by simp [MemPlace.row, size_of e])).2 u v (by have := World.var?_cell gPlace hv4 0; obtain ⟨l⟩ := cs4; subst e; simpa using this))
  refine ⟨fun g => if g = 0 then a0 else if g = 2 then a1 else if g = 1 then a2 else if g = 3 then a3 else a4, fun e => ?_⟩
  cases e
  · exact h0
  · exact h2
  · exact h1
  · exact h3
  · exact h4
end Go.Proofs.YtlffcinkijlaiaaDoor

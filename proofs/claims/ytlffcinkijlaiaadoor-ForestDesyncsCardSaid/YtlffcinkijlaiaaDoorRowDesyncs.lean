/- The law ForestDesyncs: whatever the numbers and the bools, the call returns true, and its argument reads as it did; the five error variables as the program's text lays them. -/
import Derived.Test.YtlffcinkijlaiaaDoorRowErr
import Derived.Test.YtlffcinkijlaiaaDoorFn
import Derived.Test.YtlffcinkijlaiaaDoorSlPost
import Derived.Test.YtlffcinkijlaiaaDoorCards
import Derived.Test.YtlffcinkijlaiaaDoorTie
import Derived.SevenTiedAt
namespace Go.Proofs.YtlffcinkijlaiaaDoor
open Go Go.ChangeShapes Go.WideShapes Go.RowKit Go.Deep
noncomputable def low : Nat := (World.holding Tryd.prog default ⟨#[], #[], []⟩).heap.size
noncomputable def laidWorld (os : Os) : World := World.doorLaid Tryd.prog 400 os
theorem laid_met (os : Os) (args : Array Value) : laidMetH Tryd.prog laid5 ((World.doorLaid Tryd.prog 400 os).forCall (fun _ _ => 0) ⟨#[], args, []⟩).memory :=
  laidMetH_of_parts3 (fuel := 8) (laidMet_of_run' 8 (by kernel_rfl) (by kernel_rfl)) (by kernel_rfl) (by kernel_rfl)
set_option maxRecDepth 100000 in
theorem desyncs_lifted (os : Os) (started : os.Started) (H : Type) (enc : TypeId × Value → H) :
    ReturnsInHanded {} Tryd.checked os 3 .any (fun w args => (Rows.forestDesyncsSpec.pre enc Tryd.prog Tryd.f3 [] false w args ∧ laidMetH Tryd.prog laid5 w) ∧ sizedMet enc Tryd.prog Tryd.f3 (OpenSpec.ofChange Rows.forestDesyncsSpec) false w args)
      (Rows.forestDesyncsSpec.post enc Tryd.prog Tryd.f3 false true false false) := by
  refine returnsInHanded_of_change_and (C := Tryd.checked) (X := fun w _ => laidMetH Tryd.prog laid5 w) (fun _ _ _ hh h => h.of_heap hh) own started (by kernel_rfl) Tryd.func3
    (ChangeSpec.witness_shaped (enc := enc) (C := Tryd.checked) (os := os) (X := fun w _ => laidMetH Tryd.prog laid5 w) false (World.doorLaid Tryd.prog 400 os) #[.int .i64 0, .slice none 0 0] 8 rfl (World.shaped_of_RefB (by kernel_rfl) (by kernel_rfl)) (by kernel_rfl) (by kernel_rfl) (by kernel_rfl) (laid_met os _)) ?_
  intro W base args ds gs before hval0 hW _ _ hL _
  have hval : ∀ (j : Nat) t v, Tryd.f3.params[j]? = some t → args[j]? = some v → Value.okWide Tryd.prog W .any base t v := hval0
  have hW' := hW
  obtain ⟨p, q, hA0, hV, rfl, hfz, hnd⟩ := hW
  have hA : DataW.TrodAll enc Tryd.prog W 0 (fun _ => true) true Tryd.f3.params.toList args.toList ds p := hA0
  rw [Tryd.params3] at hA hval
  obtain ⟨v0, v1, d0, d1, p0, p1, rfl, rfl, rfl, h0, h1⟩ := trodAll_two hA
  obtain ⟨rfl, rfl⟩ := trodVars_none hV
  obtain ⟨n, rfl, rfl, rfl, hwn⟩ := open_int Tryd.underlying3 (hval 0 3 v0 rfl rfl) h0
  obtain ⟨p, hp⟩ := errs_of_laid hL
  obtain ⟨on, rfl, hr, hlen⟩ := Sl.sli_bools Tryd.underlying22 Tryd.underlying4 (by kernel_rfl) (okWide_slice Tryd.underlying22 (hval 1 22 v1 rfl rfl)) h1 Sl.encB rfl (fun _ => rfl)
  have hG : Sl.Gl [Sl.Old W] p := ⟨fun e => Sl.celH_old (hp e)⟩
  refine (Sl.desyncs_spec hG hr hlen W (Sl.Sat.start W)).mono fun e W' ⟨_, he, hS⟩ => ?_
  subst he
  exact ⟨_, rfl, Sl.post_true laidOut rfl (fun ds h => by match ds, h with | [_, _], _ => rfl) rfl Tryd.underlying4 (by kernel_rfl) hW' hS⟩
theorem desyncs_row : Rows.ForestDesyncsSaid :=
  OpenClaim.holds_of_wide 3 Tryd.f3 rfl rfl rfl rfl rfl rfl rfl ⟨rfl, rfl, rfl, rfl, rfl⟩ rfl rfl rfl rfl rfl (by kernel_rfl) Tryd.func3 (by kernel_rfl)
    (of_decide_eq_true (by kernel_rfl)) (by unfold Func.isWrapper; first | (rw [if_pos (by decide +kernel)]; kernel_rfl) | (rw [if_neg (by decide +kernel)]; exact ⟨rfl, rfl⟩))
    (fun os started H enc _ => desyncs_lifted os started H enc)
theorem desyncs_card : Rows.ForestDesyncsCardSaid :=
  Claim7.holds_tied_plain_at .later [] [.sentinel, .sentinel, .sentinel, .sentinel, .sentinel] true (true, "f96c5f158524916730a5933a376a2afdf62e836ba49b186e60d265780fdcb775") true
    desyncs_row (fun _ h => by cases h) (by kernel_rfl) (fun _ h => by cases h) forestDesyncs_row_tie rfl ⟨rfl, rfl⟩ (by kernel_rfl) rfl
    (fun f fn hf hfn => by
      obtain rfl : f = 3 := Option.some.inj ((show Tryd.prog.funcNamed "tableau/tableaulaw17.ForestDesyncs" = some 3 by kernel_rfl).symm.trans hf) |>.symm
      obtain rfl : fn = Tryd.f3 := (Option.some.inj (Tryd.func3.symm.trans hfn)).symm
      exact ⟨by kernel_rfl, fun j t ht => by
        have h1 : (Tryd.f3.params.toList.all fun t => !Tryd.prog.wantsStandIn t) = true := by kernel_rfl
        have h2 := List.all_eq_true.1 h1 t (by rw [Array.mem_toList_iff]; exact Array.mem_of_getElem? ht)
        exact Eq.mp (Bool.not_eq_true' _) h2⟩)
    (by kernel_rfl)
#print axioms desyncs_card
end Go.Proofs.YtlffcinkijlaiaaDoor

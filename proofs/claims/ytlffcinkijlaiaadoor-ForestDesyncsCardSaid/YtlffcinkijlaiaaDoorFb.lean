/- Printed by a program of this session out of the translation (wip/tools/gen.py): walks. -/
import Derived.Test.YtlffcinkijlaiaaDoorFa
import Derived.Test.YtlffcinkijlaiaaDoorSlDraw
import Derived.Test.YtlffcinkijlaiaaDoorProg
import Derived.KernelRfl
namespace Go.Proofs.Sl
open Go
set_option linter.unusedVariables false
set_option linter.unusedSimpArgs false
set_option maxRecDepth 20000
theorem fa_82_2 : ∀ b o w, (Instr.fieldAt 82 (.pointer (some ⟨b, o, none⟩)) 2).run Tryd.prog w = .ok (.pointer (some ⟨b, o + 2, none⟩)) w := fun _ _ _ => by kernel_rfl
theorem fl_4 : Flat Tryd.prog 4 := fun _ => by kernel_rfl
theorem mixed : Tryd.prog.follows .mixedOrders = true := by kernel_rfl

theorem synced_spec {L : List HP} {F : Fo} {rk : Int → Nat} (hi : Inc L F.hp) (hr : Rk F.abs rk) {id : Int}  : ∀ w, Sat w (L) → Calls Tryd.prog 46 #[.pointer (some ⟨F.f, 0, none⟩), .int .i64 id] w (Ret (α := Unit) (fun _ => .bool (syn F.abs rk id)) (fun _ => L)) := by
  refine Spec.enter (n := 34) (vs := [.pointer (some ⟨F.f, 0, none⟩), .int .i64 id]) Tryd.func46 rfl rfl rfl ?_
  dsimp only [enum, Nat.reduceAdd]
  refine Wc.seq ?_
  -- R0
  refine Wc.region ?_
  refine Wl.val (Runs.assign (by rfl)) rfl ?_
  refine Wl.nil ?_
  refine At.env [(0, _), (1, _)] ⟨by rfl, by rfl, trivial⟩ ?_
  refine At.then_ ?_
  refine Wc.seq ?_
  refine Wc.seq ?_
  -- R1
  refine Wc.region ?_
  refine Wl.val (Runs.move (by rfl)) rfl ?_
  refine Wl.val (Runs.nilCheck (by rfl)) rfl ?_
  refine Wl.val (Runs.field (by rfl) fa_78_0) rfl ?_
  refine Wl.val (Runs.load1 (by rfl) fl_76 (by first | exact hi.fof | exact (hi.srf hs) | exact (hi.srf hk) | repeat (first | exact Has.here | apply Has.there)) (by rfl)) rfl ?_
  refine Wl.val (Runs.move (by rfl)) rfl ?_
  refine Wl.val (Runs.lookupv mp_76 (by rfl) (by rfl) (by first | exact hi.fomap | repeat (first | exact Has.imap | apply Has.there)) (look_pv F.L id)) rfl ?_
  refine Wl.val (Runs.assign (by rfl)) rfl ?_
  refine Wl.nil ?_
  refine At.env [(0, _), (5, _)] ⟨by rfl, by rfl, trivial⟩ ?_
  refine At.then_ ?_
  refine Wc.block ?_
  refine Wc.loop (α := Int) (fun k => [(0, .pointer (some ⟨F.f, 0, none⟩)), (5, pv (look F.L k))]) (fun k => L) (fun k => syn F.abs rk k = syn F.abs rk id) (fun k => rk k) id ?_ ⟨(by rfl), (by rfl), trivial⟩ ?_ ?_
  · skip
    exact rfl
  · skip
    exact fun _ h => h
  · skip
    intro k hI
    try dsimp only
    rcases hk : look F.L k with _ | s <;> simp only [pv]
    · skip
      refine Wc.seq ?_
      refine Wc.seq ?_
      -- R2
      refine Wc.region ?_
      refine Wl.val (Runs.move (by rfl)) rfl ?_
      refine Wl.val (Runs.nep0 up_79 (by rfl)) rfl ?_
      refine Wl.val (Runs.move (by rfl)) rfl ?_
      refine Wl.unwanted (d := 14) rfl rfl rfl rfl ?_
      refine Wl.unwanted (d := 14) rfl rfl rfl rfl ?_
      refine Wl.unwanted (d := 14) rfl rfl rfl rfl ?_
      refine Wl.unwanted (d := 14) rfl rfl rfl rfl ?_
      refine Wl.unwanted (d := 14) rfl rfl rfl rfl ?_
      refine Wl.val (Runs.pickf (by rfl) (by rfl)) rfl ?_
      refine Wl.nil ?_
      refine At.env [(0, _), (5, _), (20, _)] ⟨by rfl, by rfl, by rfl, trivial⟩ ?_
      refine At.then_ ?_
      refine Wc.iff_ (by rfl) ?_
      refine Wc.exit ?_
      repeat (first | refine At.thenExit ?_ | refine At.blockOther rfl ?_)
      refine At.blockOut ?_
      refine At.then_ ?_
      refine Wc.seq ?_
      -- R6
      refine Wc.region ?_
      refine Wl.val (Runs.assign (by rfl)) rfl ?_
      refine Wl.nil ?_
      refine At.env [(4, _)] ⟨by rfl, trivial⟩ ?_
      refine At.then_ ?_
      refine Wc.ret ?_
      repeat (first | refine At.thenRet ?_ | refine At.blockRet ?_)
      -- ret 0
      exact At.ret1 () rfl (by rw [← hI, syn_none (Fo.get_none hk)]; rfl) (fun _ h => h)
    · skip
      refine Wc.seq ?_
      refine Wc.seq ?_
      -- R2
      refine Wc.region ?_
      refine Wl.val (Runs.move (by rfl)) rfl ?_
      refine Wl.val (Runs.nep1 up_79 (by rfl)) rfl ?_
      refine Wl.val (Runs.move (by rfl)) rfl ?_
      refine Wl.wanted (d := 14) rfl rfl ?_
      refine Wl.val (Runs.move (by rfl)) rfl ?_
      refine Wl.wanted (d := 14) rfl rfl ?_
      refine Wl.val (Runs.nilCheck (by rfl)) rfl ?_
      refine Wl.wanted (d := 14) rfl rfl ?_
      refine Wl.val (Runs.field (by rfl) fa_82_1) rfl ?_
      refine Wl.wanted (d := 14) rfl rfl ?_
      refine Wl.val (Runs.load1 (by rfl) fl_3 (by first | exact hi.fof | exact (hi.srf hs) | exact (hi.srf hk) | repeat (first | exact Has.here | apply Has.there)) (by rfl)) rfl ?_
      refine Wl.wanted (d := 14) rfl rfl ?_
      refine Wl.val (Runs.gt (by rfl) (by rfl)) rfl ?_
      refine Wl.val (Runs.pickt (by rfl) (by rfl)) rfl ?_
      refine Wl.nil ?_
      refine At.env [(0, _), (5, _), (20, _)] ⟨by rfl, by rfl, by rfl, trivial⟩ ?_
      refine At.then_ ?_
      -- if 0
      first | refine Wc.ifd (by rfl) (fun h1 => ?_) (fun h1 => ?_) | refine Wc.ifb (by rfl) (fun h1 => ?_) (fun h1 => ?_)
      · skip
        refine Wc.skip ?_
        refine At.then_ ?_
        refine Wc.seq ?_
        refine Wc.block ?_
        refine Wc.seq ?_
        -- R4
        refine Wc.region ?_
        refine Wl.val (Runs.move (by rfl)) rfl ?_
        refine Wl.val (Runs.nilCheck (by rfl)) rfl ?_
        refine Wl.val (Runs.field (by rfl) fa_82_2) rfl ?_
        refine Wl.val (Runs.load1 (by rfl) fl_4 (by first | exact hi.fof | exact (hi.srf hs) | exact (hi.srf hk) | repeat (first | exact Has.here | apply Has.there)) (by rfl)) rfl ?_
        refine Wl.nil ?_
        refine At.env [(0, _), (5, _), (33, _)] ⟨by rfl, by rfl, by rfl, trivial⟩ ?_
        refine At.then_ ?_
        -- if 1
        first | refine Wc.ifd (by rfl) (fun h2 => ?_) (fun h2 => ?_) | refine Wc.ifb (by rfl) (fun h2 => ?_) (fun h2 => ?_)
        · skip
          refine Wc.seq ?_
          -- R5
          refine Wc.region ?_
          refine Wl.val (Runs.assign (by rfl)) rfl ?_
          refine Wl.nil ?_
          refine At.env [(4, _)] ⟨by rfl, trivial⟩ ?_
          refine At.then_ ?_
          refine Wc.ret ?_
          repeat (first | refine At.thenRet ?_ | refine At.blockRet ?_)
          -- ret 0
          exact At.ret1 () rfl (by rw [← hI, syn_sync (Fo.get_some hk) h1 h2]; rfl) (fun _ h => h)
        · skip
          refine Wc.skip ?_
          refine At.blockNormal ?_
          refine At.then_ ?_
          -- R3
          refine Wd.begin0 (fun _ => true) mixed ?_
          dsimp only [List.length_cons, List.length_nil, Nat.reduceAdd]
          refine Wd.takeP 0 rfl (by kernel_rfl) (by kernel_rfl) (by kernel_rfl) (fun _ _ _ _ h => h) (Runs.move (by rfl)) rfl ?_
          refine Wd.takeP 1 rfl (by kernel_rfl) (by kernel_rfl) (by kernel_rfl) (fun _ _ _ _ h => h) (Runs.nilCheck (by rfl)) rfl ?_
          refine Wd.takeP 2 rfl (by kernel_rfl) (by kernel_rfl) (by kernel_rfl) (fun _ _ _ _ h => h) (Runs.field (by rfl) fa_78_0) rfl ?_
          refine Wd.takeR 3 rfl (by kernel_rfl) (by kernel_rfl) (by kernel_rfl) (fun _ _ _ _ h => h) (fun _ h => h) (Runs.load1 (by rfl) fl_76 (by first | exact hi.fof | exact (hi.srf hs) | exact (hi.srf hk) | repeat (first | exact Has.here | apply Has.there)) (by rfl)) rfl ?_
          refine Wd.takeP 4 rfl (by kernel_rfl) (by kernel_rfl) (by kernel_rfl) (fun _ _ _ _ h => h) (Runs.move (by rfl)) rfl ?_
          refine Wd.takeP 5 rfl (by kernel_rfl) (by kernel_rfl) (by kernel_rfl) (fun _ _ _ _ h => h) (Runs.nilCheck (by rfl)) rfl ?_
          refine Wd.takeP 6 rfl (by kernel_rfl) (by kernel_rfl) (by kernel_rfl) (fun _ _ _ _ h => h) (Runs.field (by rfl) fa_82_1) rfl ?_
          refine Wd.takeR 7 rfl (by kernel_rfl) (by kernel_rfl) (by kernel_rfl) (fun _ _ _ _ h => h) (fun _ h => h) (Runs.load1 (by rfl) fl_3 (by first | exact hi.fof | exact (hi.srf hs) | exact (hi.srf hk) | repeat (first | exact Has.here | apply Has.there)) (by rfl)) rfl ?_
          refine Wd.takeR 8 rfl (by kernel_rfl) (by kernel_rfl) (by kernel_rfl) (fun _ _ _ _ h => h) (fun _ h => h) (Runs.lookupv mp_76 (by rfl) (by rfl) (by first | exact hi.fomap | repeat (first | exact Has.imap | apply Has.there)) (look_pv F.L s.parent)) rfl ?_
          refine Wd.takeP 9 rfl (by kernel_rfl) (by kernel_rfl) (by kernel_rfl) (fun _ _ _ _ h => h) (Runs.assign (by rfl)) rfl ?_
          refine Wd.done (by kernel_rfl) ?_
          refine At.env [(0, _), (5, _)] ⟨by rfl, by rfl, trivial⟩ ?_
          exact At.again s.parent (by rw [← hI]; exact (syn_up hr (Fo.get_some hk) h1 h2).symm) (hr k s.abs (Fo.get_some hk) h1) ⟨by rfl, by rfl, trivial⟩ (fun _ h => h)
      · skip
        refine Wc.exit ?_
        repeat (first | refine At.thenExit ?_ | refine At.blockOther rfl ?_)
        refine At.blockOut ?_
        refine At.then_ ?_
        refine Wc.seq ?_
        -- R6
        refine Wc.region ?_
        refine Wl.val (Runs.assign (by rfl)) rfl ?_
        refine Wl.nil ?_
        refine At.env [(4, _)] ⟨by rfl, trivial⟩ ?_
        refine At.then_ ?_
        refine Wc.ret ?_
        repeat (first | refine At.thenRet ?_ | refine At.blockRet ?_)
        -- ret 1
        exact At.ret1 () rfl (by rw [← hI, syn_top (Fo.get_some hk) h1]; rfl) (fun _ h => h)
end Go.Proofs.Sl

/- Printed by a program of this session out of the translation (wip/tools/gen.py): walks. -/
import Derived.Test.YtlffcinkijlaiaaDoorFf
import Derived.Test.YtlffcinkijlaiaaDoorProg
import Derived.KernelRfl
namespace Go.Proofs.Sl
open Go
set_option linter.unusedVariables false
set_option linter.unusedSimpArgs false
set_option maxRecDepth 20000
theorem fl_26 : Flat Tryd.prog 26 := fun _ => by kernel_rfl
theorem en_48 : Enters Tryd.prog 48 := fun _ _ => by kernel_rfl
theorem en_52 : Enters Tryd.prog 52 := fun _ _ => by kernel_rfl
theorem en_61 : Enters Tryd.prog 61 := fun _ _ => by kernel_rfl
theorem ui_26 : ∀ w, (underlying 26).run Tryd.prog w = .ok (.interface #[("Error", 195)]) w := fun _ => by kernel_rfl

theorem new_spec {L : List HP} : ∀ w, Sat w (L) → Calls Tryd.prog 9 #[] w (Ret (α := { F : Fo // F.abs = [] }) (fun x => .pointer (some ⟨x.1.f, 0, none⟩)) (fun x => x.1.hp :: L)) := by
  refine Spec.enter (n := 4) (vs := []) Tryd.func9 rfl rfl rfl ?_
  dsimp only [enum, Nat.reduceAdd]
  refine Wc.seq ?_
  -- R0
  refine Wc.region ?_
  refine Wl.val (Runs.assign (by rfl)) rfl ?_
  refine Wl.nil ?_
  refine At.env [] trivial ?_
  refine At.then_ ?_
  refine Wc.seq ?_
  -- R1
  refine Wc.region ?_
  refine Wl.valX RunsX.makeMap rfl (fun b1 => ?_)
  try dsimp only
  refine Wl.val (Runs.build (v := .agg #[.map (some b1)]) (by rfl) (fun _ => by kernel_rfl)) rfl ?_
  refine Wl.valX (RunsX.box (cs := [.map (some b1)]) (by rfl) (by rfl)) rfl (fun b3 => ?_)
  try dsimp only
  refine Wl.val (Runs.assign (by rfl)) rfl ?_
  refine Wl.nil ?_
  refine At.env [(0, _)] ⟨by rfl, trivial⟩ ?_
  refine At.then_ ?_
  refine Wc.ret ?_
  repeat (first | refine At.thenRet ?_ | refine At.blockRet ?_)
  -- ret 0
  exact At.ret1 (⟨⟨b3, b1, 0, []⟩, rfl⟩) rfl (by rfl) (fun _ h => Sat.group (M := [_, _]) h)

theorem add_spec {R : List HP} {F : Fo} {p : Nat → Addr} (hG : Gl R p) {id : Int} : ∀ w, Sat w (F.hp :: R) → Calls Tryd.prog 10 #[.pointer (some ⟨F.f, 0, none⟩), .int .i64 id] w (Ret (α := { F' : Fo // F'.f = F.f ∧ F'.abs = (pAdd F.abs id).2 }) (fun _ => errV p (pAdd F.abs id).1) (fun x => x.1.hp :: R)) := by
  refine Spec.enter (n := 31) (vs := [.pointer (some ⟨F.f, 0, none⟩), .int .i64 id]) Tryd.func10 rfl rfl rfl ?_
  dsimp only [enum, Nat.reduceAdd]
  refine Wc.seq ?_
  -- R0
  refine Wc.region ?_
  refine Wl.val (Runs.assign (by rfl)) rfl ?_
  refine Wl.nil ?_
  refine At.env [(0, _), (1, _)] ⟨by rfl, by rfl, trivial⟩ ?_
  refine At.then_ ?_
  refine Wc.seq ?_
  refine Wc.block ?_
  refine Wc.seq ?_
  -- R1
  refine Wc.region ?_
  refine Wl.val (Runs.move (by rfl)) rfl ?_
  refine Wl.val (Runs.lt (by rfl) (by rfl)) rfl ?_
  refine Wl.val (Runs.assign (by rfl)) rfl ?_
  refine Wl.nil ?_
  refine At.env [(0, _), (1, _), (5, _)] ⟨by rfl, by rfl, by rfl, trivial⟩ ?_
  refine At.then_ ?_
  -- if 0
  first | refine Wc.ifd (by rfl) (fun h1 => ?_) (fun h1 => ?_) | refine Wc.ifb (by rfl) (fun h1 => ?_) (fun h1 => ?_)
  · skip
    refine Wc.seq ?_
    -- R2
    refine Wc.region ?_
    refine Wl.val (Runs.loadG (by rfl) fl_26 (by repeat (first | exact hG.g .arg | apply CelH.there))) rfl ?_
    refine Wl.val (Runs.assign (by rfl)) rfl ?_
    refine Wl.nil ?_
    refine At.env [(4, _)] ⟨by rfl, trivial⟩ ?_
    refine At.then_ ?_
    refine Wc.ret ?_
    repeat (first | refine At.thenRet ?_ | refine At.blockRet ?_)
    -- ret 0
    exact At.ret1 (⟨F, rfl, by rw [pAdd_arg h1]⟩) rfl (by show _ = some (errV p _); rw [pAdd_arg h1]; rfl) (fun _ h => h)
  · skip
    refine Wc.seq ?_
    -- R3
    rcases hk : look F.L id with _ | s
    · skip
      refine Wc.region ?_
      refine Wl.val (Runs.move (by rfl)) rfl ?_
      refine Wl.val (Runs.move (by rfl)) rfl ?_
      refine Wl.call en_48 (by rfl) (has_none .here hk) rfl (fun x12 => ?_)
      try dsimp only
      refine Wl.val (Runs.assign (by rfl)) rfl ?_
      refine Wl.nil ?_
      refine At.env [(0, _), (1, _), (9, _)] ⟨by rfl, by rfl, by rfl, trivial⟩ ?_
      refine At.then_ ?_
      -- if 1
      refine Wc.iff_ (by rfl) ?_
      refine Wc.seq ?_
      -- R5
      refine Wc.region ?_
      refine Wl.val (Runs.move (by rfl)) rfl ?_
      refine Wl.val (Runs.nilCheck (by rfl)) rfl ?_
      refine Wl.val (Runs.field (by rfl) fa_78_0) rfl ?_
      refine Wl.val (Runs.load1 (by rfl) fl_76 (by first | exact Has.fof | repeat (first | exact Has.here | apply Has.there)) (by rfl)) rfl ?_
      refine Wl.val (Runs.lenMap mp_76 rfl (by rfl) (by first | exact Has.fomap | repeat (first | exact Has.imap | apply Has.there))) rfl ?_
      refine Wl.val (Runs.ge (by rfl) (by rfl)) rfl ?_
      refine Wl.val (Runs.assign (by rfl)) rfl ?_
      refine Wl.nil ?_
      refine At.env [(0, _), (1, _), (14, _)] ⟨by rfl, by rfl, by rfl, trivial⟩ ?_
      refine At.then_ ?_
      -- if 2
      first | refine Wc.ifd (by rfl) (fun h2 => ?_) (fun h2 => ?_) | refine Wc.ifb (by rfl) (fun h2 => ?_) (fun h2 => ?_)
      · skip
        refine Wc.seq ?_
        -- R6
        refine Wc.region ?_
        refine Wl.val (Runs.loadG (by rfl) fl_26 (by repeat (first | exact hG.g .big | apply CelH.there))) rfl ?_
        refine Wl.val (Runs.assign (by rfl)) rfl ?_
        refine Wl.nil ?_
        refine At.env [(4, _)] ⟨by rfl, trivial⟩ ?_
        refine At.then_ ?_
        refine Wc.ret ?_
        repeat (first | refine At.thenRet ?_ | refine At.blockRet ?_)
        -- ret 1
        exact At.ret1 (⟨F, rfl, by rw [pAdd_big h1 (Fo.get_none hk) (by simpa [Fo.abs] using h2)]⟩) rfl (by show _ = some (errV p _); rw [pAdd_big h1 (Fo.get_none hk) (by simpa [Fo.abs] using h2)]; rfl) (fun _ h => h)
      · skip
        refine Wc.skip ?_
        refine At.blockNormal ?_
        refine At.then_ ?_
        refine Wc.seq ?_
        -- R7
        refine Wd.begin (fun i => !(Nat.beq i 9)) ([F.hp]) mixed ?_
        dsimp only [List.length_cons, List.length_nil, Nat.reduceAdd]
        refine Wd.takeP 0 rfl (by kernel_rfl) (by kernel_rfl) (by kernel_rfl) (fun _ _ _ _ h => h) (Runs.move (by rfl)) rfl ?_
        refine Wd.takeP 1 rfl (by kernel_rfl) (by kernel_rfl) (by kernel_rfl) (fun _ _ _ _ h => h) (Runs.nilCheck (by rfl)) rfl ?_
        refine Wd.takeP 2 rfl (by kernel_rfl) (by kernel_rfl) (by kernel_rfl) (fun _ _ _ _ h => h) (Runs.field (by rfl) fa_78_0) rfl ?_
        refine Wd.takeR 3 rfl (by kernel_rfl) (by kernel_rfl) (by kernel_rfl) (fun _ _ _ _ h => h) (fun _ h => (by repeat (first | exact Inc.here | refine Inc.there ?_) : Inc _ _) _ h) (Runs.load1 (by rfl) fl_76 (by first | exact Has.fof | repeat (first | exact Has.here | apply Has.there)) (by rfl)) rfl ?_
        refine Wd.takeP 4 rfl (by kernel_rfl) (by kernel_rfl) (by kernel_rfl) (fun _ _ _ _ h => h) (Runs.move (by rfl)) rfl ?_
        refine Wd.takeP 5 rfl (by kernel_rfl) (by kernel_rfl) (by kernel_rfl) (fun _ _ _ _ h => h) (Runs.move (by rfl)) rfl ?_
        refine Wd.call 6 rfl (by kernel_rfl) en_52 (by rfl) (fun _ _ => wanted_none rfl _) (first_spec) (fun _ _ => (fun _ h => (by repeat (first | exact Inc.here | refine Inc.there ?_) : Inc _ _) _ h)) rfl (fun r => ?_)
        try dsimp only
        refine Wd.takeP 7 rfl (by kernel_rfl) (by kernel_rfl) (by kernel_rfl) (fun _ _ _ _ h => h) (Runs.build (v := .agg #[.int .i64 id, .int .i64 0, .bool false, .bool false, .int .i64 0, .slice none 0 0, .slice none 0 0, .bool false, .bool false, .slice none 0 0, .bool false, .slice none 0 0, .slice none 0 0, .bool false, .int .i64 0, .slice none 0 0, .slice none 0 0, .bool false, .bool false, .slice none 0 0, .bool false, .slice none 0 0, .slice none 0 0, .bool r.1.at_, .int .i64 r.1.bu, r.1.da.v, r.1.fr.v, .bool r.1.inp, .bool r.1.all, r.1.re.v, .bool r.1.ord, r.1.ol.v, r.1.pl.v]) (by rfl) (fun _ => by kernel_rfl)) rfl ?_
        refine Wd.valX 8 rfl (by kernel_rfl) (RunsX.box (cs := [.int .i64 id, .int .i64 0, .bool false, .bool false, .int .i64 0, .slice none 0 0, .slice none 0 0, .bool false, .bool false, .slice none 0 0, .bool false, .slice none 0 0, .slice none 0 0, .bool false, .int .i64 0, .slice none 0 0, .slice none 0 0, .bool false, .bool false, .slice none 0 0, .bool false, .slice none 0 0, .slice none 0 0, .bool r.1.at_, .int .i64 r.1.bu, r.1.da.v, r.1.fr.v, .bool r.1.inp, .bool r.1.all, r.1.re.v, .bool r.1.ord, r.1.ol.v, r.1.pl.v]) (by rfl) (by rfl)) (fun _ _ => (fun _ h => (by repeat (first | exact Inc.here | refine Inc.there ?_) : Inc _ _) _ h)) rfl (fun b30 => ?_)
        try dsimp only
        refine Wd.mem (fun _ h => Fo.addOut (B := cel b30 _ _) (M := r.1.rows) h) ?_
        refine Wd.act 9 rfl (by kernel_rfl) (Acts.mapUpdate mp_76 (by rfl) (by rfl) (by rfl) (by repeat (first | exact UpdL.imap | apply UpdL.there))) (fun h => (nomatch h)) ?_
        refine Wd.done (by kernel_rfl) ?_
        refine At.env [] trivial ?_
        refine At.then_ ?_
        refine Wc.seq ?_
        -- R8
        refine Wc.region ?_
        refine Wl.val (Runs.assign (by rfl)) rfl ?_
        refine Wl.nil ?_
        refine At.env [(4, _)] ⟨by rfl, trivial⟩ ?_
        refine At.then_ ?_
        refine Wc.ret ?_
        repeat (first | refine At.thenRet ?_ | refine At.blockRet ?_)
        -- ret 2
        exact At.ret1 (⟨F.new ⟨b30, F.clock, id, 0, false, .zero, .zero, r.1⟩, rfl, by rw [pAdd_ok h1 (Fo.get_none hk) (by simpa [Fo.abs] using h2), Fo.new_abs]; simp only [Srf.abs, r.2]; rfl⟩) rfl (by show _ = some (errV p _); rw [pAdd_ok h1 (Fo.get_none hk) (by simpa [Fo.abs] using h2)]; rfl) (fun _ h => Fo.addBack (s := ⟨b30, F.clock, id, 0, false, .zero, .zero, r.1⟩) hk rfl rfl rfl h)
    · skip
      refine Wc.region ?_
      refine Wl.val (Runs.move (by rfl)) rfl ?_
      refine Wl.val (Runs.move (by rfl)) rfl ?_
      refine Wl.call en_48 (by rfl) (has_some .here hk) rfl (fun x12 => ?_)
      try dsimp only
      refine Wl.val (Runs.assign (by rfl)) rfl ?_
      refine Wl.nil ?_
      refine At.env [(0, _), (1, _), (9, _)] ⟨by rfl, by rfl, by rfl, trivial⟩ ?_
      refine At.then_ ?_
      -- if 1
      refine Wc.ift (by rfl) ?_
      refine Wc.seq ?_
      -- R4
      refine Wc.region ?_
      refine Wl.val (Runs.loadG (by rfl) fl_26 (by repeat (first | exact hG.g .object | apply CelH.there))) rfl ?_
      refine Wl.val (Runs.assign (by rfl)) rfl ?_
      refine Wl.nil ?_
      refine At.env [(4, _)] ⟨by rfl, trivial⟩ ?_
      refine At.then_ ?_
      refine Wc.ret ?_
      repeat (first | refine At.thenRet ?_ | refine At.blockRet ?_)
      -- ret 1
      exact At.ret1 (⟨F, rfl, by rw [pAdd_object h1 (Fo.get_some hk)]⟩) rfl (by show _ = some (errV p _); rw [pAdd_object h1 (Fo.get_some hk)]; rfl) (fun _ h => h)

theorem child_none {L : List HP} {F : Fo} {p : Nat → Addr} (hi : Inc L F.hp) (hG : Gl L p) {id : Int} (hk : look F.L id = none) : ∀ w, Sat w (L) → Calls Tryd.prog 61 #[.pointer (some ⟨F.f, 0, none⟩), .int .i64 id] w (Ret (α := Unit) (fun _ => .tuple #[.pointer none, .pointer none, errV p (some .object)]) (fun _ => L)) := by
  refine Spec.enter (n := 35) (vs := [.pointer (some ⟨F.f, 0, none⟩), .int .i64 id]) Tryd.func61 rfl rfl rfl ?_
  dsimp only [enum, Nat.reduceAdd]
  refine Wc.seq ?_
  -- R0
  refine Wc.region ?_
  refine Wl.val (Runs.assign (by rfl)) rfl ?_
  refine Wl.val (Runs.assign (by rfl)) rfl ?_
  refine Wl.val (Runs.assign (by rfl)) rfl ?_
  refine Wl.nil ?_
  refine At.env [(0, _), (1, _)] ⟨by rfl, by rfl, trivial⟩ ?_
  refine At.then_ ?_
  refine Wc.seq ?_
  -- R1
  refine Wc.region ?_
  refine Wl.val (Runs.move (by rfl)) rfl ?_
  refine Wl.val (Runs.nilCheck (by rfl)) rfl ?_
  refine Wl.val (Runs.field (by rfl) fa_78_0) rfl ?_
  refine Wl.val (Runs.load1 (by rfl) fl_76 (by first | exact hi.fof | exact (hi.srf hs) | repeat (first | exact Has.here | apply Has.there)) (by rfl)) rfl ?_
  refine Wl.val (Runs.move (by rfl)) rfl ?_
  refine Wl.val (Runs.lookupv mp_76 (by rfl) (by rfl) (by first | exact hi.fomap | repeat (first | exact Has.imap | apply Has.there)) (look_n hk)) rfl ?_
  refine Wl.val (Runs.assign (by rfl)) rfl ?_
  refine Wl.nil ?_
  refine At.env [(0, _), (7, _)] ⟨by rfl, by rfl, trivial⟩ ?_
  refine At.then_ ?_
  refine Wc.seq ?_
  refine Wc.block ?_
  refine Wc.seq ?_
  -- R2
  refine Wc.region ?_
  refine Wl.val (Runs.move (by rfl)) rfl ?_
  refine Wl.val (Runs.eqp0 up_79 (by rfl)) rfl ?_
  refine Wl.val (Runs.assign (by rfl)) rfl ?_
  refine Wl.nil ?_
  refine At.env [(0, _), (7, _), (14, _)] ⟨by rfl, by rfl, by rfl, trivial⟩ ?_
  refine At.then_ ?_
  refine Wc.ift (by rfl) ?_
  refine Wc.seq ?_
  -- R3
  refine Wd.begin0 (fun _ => true) mixed ?_
  dsimp only [List.length_cons, List.length_nil, Nat.reduceAdd]
  refine Wd.takeR 0 rfl (by kernel_rfl) (by kernel_rfl) (by kernel_rfl) (fun _ _ _ _ h => h) (fun _ h => h) (Runs.loadG (by rfl) fl_26 (by repeat (first | exact hG.g .object | apply CelH.there))) rfl ?_
  refine Wd.takeP 1 rfl (by kernel_rfl) (by kernel_rfl) (by kernel_rfl) (fun _ _ _ _ h => h) (Runs.assign (by rfl)) rfl ?_
  refine Wd.takeP 2 rfl (by kernel_rfl) (by kernel_rfl) (by kernel_rfl) (fun _ _ _ _ h => h) (Runs.assign (by rfl)) rfl ?_
  refine Wd.takeP 3 rfl (by kernel_rfl) (by kernel_rfl) (by kernel_rfl) (fun _ _ _ _ h => h) (Runs.assign (by rfl)) rfl ?_
  refine Wd.done (by kernel_rfl) ?_
  refine At.env [(4, _), (5, _), (6, _)] ⟨by rfl, by rfl, by rfl, trivial⟩ ?_
  refine At.then_ ?_
  refine Wc.ret ?_
  repeat (first | refine At.thenRet ?_ | refine At.blockRet ?_)
  -- ret 0
  exact At.ret3 () rfl (by rfl) (by rfl) (by rfl) rfl (fun _ h => h)

theorem child_root {L : List HP} {F : Fo} {p : Nat → Addr} (hi : Inc L F.hp) (hG : Gl L p) {id : Int} {s : Srf} (hs : look F.L id = some s) (h0 : s.parent = 0) : ∀ w, Sat w (L) → Calls Tryd.prog 61 #[.pointer (some ⟨F.f, 0, none⟩), .int .i64 id] w (Ret (α := Unit) (fun _ => .tuple #[.pointer none, .pointer none, errV p (some .role)]) (fun _ => L)) := by
  refine Spec.enter (n := 35) (vs := [.pointer (some ⟨F.f, 0, none⟩), .int .i64 id]) Tryd.func61 rfl rfl rfl ?_
  dsimp only [enum, Nat.reduceAdd]
  refine Wc.seq ?_
  -- R0
  refine Wc.region ?_
  refine Wl.val (Runs.assign (by rfl)) rfl ?_
  refine Wl.val (Runs.assign (by rfl)) rfl ?_
  refine Wl.val (Runs.assign (by rfl)) rfl ?_
  refine Wl.nil ?_
  refine At.env [(0, _), (1, _)] ⟨by rfl, by rfl, trivial⟩ ?_
  refine At.then_ ?_
  refine Wc.seq ?_
  -- R1
  refine Wc.region ?_
  refine Wl.val (Runs.move (by rfl)) rfl ?_
  refine Wl.val (Runs.nilCheck (by rfl)) rfl ?_
  refine Wl.val (Runs.field (by rfl) fa_78_0) rfl ?_
  refine Wl.val (Runs.load1 (by rfl) fl_76 (by first | exact hi.fof | exact (hi.srf hs) | repeat (first | exact Has.here | apply Has.there)) (by rfl)) rfl ?_
  refine Wl.val (Runs.move (by rfl)) rfl ?_
  refine Wl.val (Runs.lookupv mp_76 (by rfl) (by rfl) (by first | exact hi.fomap | repeat (first | exact Has.imap | apply Has.there)) (look_v hs)) rfl ?_
  refine Wl.val (Runs.assign (by rfl)) rfl ?_
  refine Wl.nil ?_
  refine At.env [(0, _), (7, _)] ⟨by rfl, by rfl, trivial⟩ ?_
  refine At.then_ ?_
  refine Wc.seq ?_
  refine Wc.block ?_
  refine Wc.seq ?_
  -- R2
  refine Wc.region ?_
  refine Wl.val (Runs.move (by rfl)) rfl ?_
  refine Wl.val (Runs.eqp1 up_79 (by rfl)) rfl ?_
  refine Wl.val (Runs.assign (by rfl)) rfl ?_
  refine Wl.nil ?_
  refine At.env [(0, _), (7, _), (14, _)] ⟨by rfl, by rfl, by rfl, trivial⟩ ?_
  refine At.then_ ?_
  refine Wc.iff_ (by rfl) ?_
  refine Wc.seq ?_
  -- R4
  refine Wc.region ?_
  refine Wl.val (Runs.move (by rfl)) rfl ?_
  refine Wl.val (Runs.nilCheck (by rfl)) rfl ?_
  refine Wl.val (Runs.field (by rfl) fa_82_1) rfl ?_
  refine Wl.val (Runs.load1 (by rfl) fl_3 (by first | exact hi.fof | exact (hi.srf hs) | repeat (first | exact Has.here | apply Has.there)) (by rfl)) rfl ?_
  refine Wl.val (Runs.eq (by rfl) (by rfl)) rfl ?_
  refine Wl.val (Runs.assign (by rfl)) rfl ?_
  refine Wl.nil ?_
  refine At.env [(0, _), (7, _), (18, _)] ⟨by rfl, by rfl, by rfl, trivial⟩ ?_
  refine At.then_ ?_
  -- if 1
  refine Wc.ifdt (by rfl) h0 ?_
  refine Wc.seq ?_
  -- R5
  refine Wd.begin0 (fun _ => true) mixed ?_
  dsimp only [List.length_cons, List.length_nil, Nat.reduceAdd]
  refine Wd.takeR 0 rfl (by kernel_rfl) (by kernel_rfl) (by kernel_rfl) (fun _ _ _ _ h => h) (fun _ h => h) (Runs.loadG (by rfl) fl_26 (by repeat (first | exact hG.g .role | apply CelH.there))) rfl ?_
  refine Wd.takeP 1 rfl (by kernel_rfl) (by kernel_rfl) (by kernel_rfl) (fun _ _ _ _ h => h) (Runs.assign (by rfl)) rfl ?_
  refine Wd.takeP 2 rfl (by kernel_rfl) (by kernel_rfl) (by kernel_rfl) (fun _ _ _ _ h => h) (Runs.assign (by rfl)) rfl ?_
  refine Wd.takeP 3 rfl (by kernel_rfl) (by kernel_rfl) (by kernel_rfl) (fun _ _ _ _ h => h) (Runs.assign (by rfl)) rfl ?_
  refine Wd.done (by kernel_rfl) ?_
  refine At.env [(4, _), (5, _), (6, _)] ⟨by rfl, by rfl, by rfl, trivial⟩ ?_
  refine At.then_ ?_
  refine Wc.ret ?_
  repeat (first | refine At.thenRet ?_ | refine At.blockRet ?_)
  -- ret 0
  exact At.ret3 () rfl (by rfl) (by rfl) (by rfl) rfl (fun _ h => h)

theorem child_ok {L : List HP} {F : Fo} {p : Nat → Addr} (hi : Inc L F.hp) (hG : Gl L p) {id : Int} {s : Srf} (hs : look F.L id = some s) (h0 : s.parent ≠ 0) : ∀ w, Sat w (L) → Calls Tryd.prog 61 #[.pointer (some ⟨F.f, 0, none⟩), .int .i64 id] w (Ret (α := Unit) (fun _ => .tuple #[.pointer (some ⟨s.p, 0, none⟩), pv (look F.L s.parent), .nilIface]) (fun _ => L)) := by
  refine Spec.enter (n := 35) (vs := [.pointer (some ⟨F.f, 0, none⟩), .int .i64 id]) Tryd.func61 rfl rfl rfl ?_
  dsimp only [enum, Nat.reduceAdd]
  refine Wc.seq ?_
  -- R0
  refine Wc.region ?_
  refine Wl.val (Runs.assign (by rfl)) rfl ?_
  refine Wl.val (Runs.assign (by rfl)) rfl ?_
  refine Wl.val (Runs.assign (by rfl)) rfl ?_
  refine Wl.nil ?_
  refine At.env [(0, _), (1, _)] ⟨by rfl, by rfl, trivial⟩ ?_
  refine At.then_ ?_
  refine Wc.seq ?_
  -- R1
  refine Wc.region ?_
  refine Wl.val (Runs.move (by rfl)) rfl ?_
  refine Wl.val (Runs.nilCheck (by rfl)) rfl ?_
  refine Wl.val (Runs.field (by rfl) fa_78_0) rfl ?_
  refine Wl.val (Runs.load1 (by rfl) fl_76 (by first | exact hi.fof | exact (hi.srf hs) | repeat (first | exact Has.here | apply Has.there)) (by rfl)) rfl ?_
  refine Wl.val (Runs.move (by rfl)) rfl ?_
  refine Wl.val (Runs.lookupv mp_76 (by rfl) (by rfl) (by first | exact hi.fomap | repeat (first | exact Has.imap | apply Has.there)) (look_v hs)) rfl ?_
  refine Wl.val (Runs.assign (by rfl)) rfl ?_
  refine Wl.nil ?_
  refine At.env [(0, _), (7, _)] ⟨by rfl, by rfl, trivial⟩ ?_
  refine At.then_ ?_
  refine Wc.seq ?_
  refine Wc.block ?_
  refine Wc.seq ?_
  -- R2
  refine Wc.region ?_
  refine Wl.val (Runs.move (by rfl)) rfl ?_
  refine Wl.val (Runs.eqp1 up_79 (by rfl)) rfl ?_
  refine Wl.val (Runs.assign (by rfl)) rfl ?_
  refine Wl.nil ?_
  refine At.env [(0, _), (7, _), (14, _)] ⟨by rfl, by rfl, by rfl, trivial⟩ ?_
  refine At.then_ ?_
  refine Wc.iff_ (by rfl) ?_
  refine Wc.seq ?_
  -- R4
  refine Wc.region ?_
  refine Wl.val (Runs.move (by rfl)) rfl ?_
  refine Wl.val (Runs.nilCheck (by rfl)) rfl ?_
  refine Wl.val (Runs.field (by rfl) fa_82_1) rfl ?_
  refine Wl.val (Runs.load1 (by rfl) fl_3 (by first | exact hi.fof | exact (hi.srf hs) | repeat (first | exact Has.here | apply Has.there)) (by rfl)) rfl ?_
  refine Wl.val (Runs.eq (by rfl) (by rfl)) rfl ?_
  refine Wl.val (Runs.assign (by rfl)) rfl ?_
  refine Wl.nil ?_
  refine At.env [(0, _), (7, _), (18, _)] ⟨by rfl, by rfl, by rfl, trivial⟩ ?_
  refine At.then_ ?_
  -- if 1
  refine Wc.ifdf (by rfl) h0 ?_
  refine Wc.skip ?_
  refine At.blockNormal ?_
  refine At.then_ ?_
  refine Wc.seq ?_
  -- R6
  refine Wd.begin0 (fun _ => true) mixed ?_
  dsimp only [List.length_cons, List.length_nil, Nat.reduceAdd]
  refine Wd.takeP 0 rfl (by kernel_rfl) (by kernel_rfl) (by kernel_rfl) (fun _ _ _ _ h => h) (Runs.move (by rfl)) rfl ?_
  refine Wd.takeP 1 rfl (by kernel_rfl) (by kernel_rfl) (by kernel_rfl) (fun _ _ _ _ h => h) (Runs.move (by rfl)) rfl ?_
  refine Wd.takeP 2 rfl (by kernel_rfl) (by kernel_rfl) (by kernel_rfl) (fun _ _ _ _ h => h) (Runs.nilCheck (by rfl)) rfl ?_
  refine Wd.takeP 3 rfl (by kernel_rfl) (by kernel_rfl) (by kernel_rfl) (fun _ _ _ _ h => h) (Runs.field (by rfl) fa_78_0) rfl ?_
  refine Wd.takeR 4 rfl (by kernel_rfl) (by kernel_rfl) (by kernel_rfl) (fun _ _ _ _ h => h) (fun _ h => h) (Runs.load1 (by rfl) fl_76 (by first | exact hi.fof | exact (hi.srf hs) | repeat (first | exact Has.here | apply Has.there)) (by rfl)) rfl ?_
  refine Wd.takeP 5 rfl (by kernel_rfl) (by kernel_rfl) (by kernel_rfl) (fun _ _ _ _ h => h) (Runs.move (by rfl)) rfl ?_
  refine Wd.takeP 6 rfl (by kernel_rfl) (by kernel_rfl) (by kernel_rfl) (fun _ _ _ _ h => h) (Runs.nilCheck (by rfl)) rfl ?_
  refine Wd.takeP 7 rfl (by kernel_rfl) (by kernel_rfl) (by kernel_rfl) (fun _ _ _ _ h => h) (Runs.field (by rfl) fa_82_1) rfl ?_
  refine Wd.takeR 8 rfl (by kernel_rfl) (by kernel_rfl) (by kernel_rfl) (fun _ _ _ _ h => h) (fun _ h => h) (Runs.load1 (by rfl) fl_3 (by first | exact hi.fof | exact (hi.srf hs) | repeat (first | exact Has.here | apply Has.there)) (by rfl)) rfl ?_
  refine Wd.takeR 9 rfl (by kernel_rfl) (by kernel_rfl) (by kernel_rfl) (fun _ _ _ _ h => h) (fun _ h => h) (Runs.lookupv mp_76 (by rfl) (by rfl) (by first | exact hi.fomap | repeat (first | exact Has.imap | apply Has.there)) (look_pv F.L s.parent)) rfl ?_
  refine Wd.takeP 10 rfl (by kernel_rfl) (by kernel_rfl) (by kernel_rfl) (fun _ _ _ _ h => h) (Runs.assign (by rfl)) rfl ?_
  refine Wd.takeP 11 rfl (by kernel_rfl) (by kernel_rfl) (by kernel_rfl) (fun _ _ _ _ h => h) (Runs.assign (by rfl)) rfl ?_
  refine Wd.takeP 12 rfl (by kernel_rfl) (by kernel_rfl) (by kernel_rfl) (fun _ _ _ _ h => h) (Runs.assign (by rfl)) rfl ?_
  refine Wd.done (by kernel_rfl) ?_
  refine At.env [(4, _), (5, _), (6, _)] ⟨by rfl, by rfl, by rfl, trivial⟩ ?_
  refine At.then_ ?_
  refine Wc.ret ?_
  repeat (first | refine At.thenRet ?_ | refine At.blockRet ?_)
  -- ret 0
  exact At.ret3 () rfl (by rfl) (by rfl) (by rfl) rfl (fun _ h => h)

theorem sync_spec {R : List HP} {F : Fo} {p : Nat → Addr} (hG : Gl R p) {id : Int} {on : Bool} : ∀ w, Sat w (F.hp :: R) → Calls Tryd.prog 14 #[.pointer (some ⟨F.f, 0, none⟩), .int .i64 id, .bool on] w (Ret (α := { F' : Fo // F'.f = F.f ∧ F'.abs = (pSync F.abs id on).2 }) (fun _ => errV p (pSync F.abs id on).1) (fun x => x.1.hp :: R)) := by
  refine Spec.enter (n := 24) (vs := [.pointer (some ⟨F.f, 0, none⟩), .int .i64 id, .bool on]) Tryd.func14 rfl rfl rfl ?_
  dsimp only [enum, Nat.reduceAdd]
  refine Wc.seq ?_
  -- R0
  refine Wc.region ?_
  refine Wl.val (Runs.assign (by rfl)) rfl ?_
  refine Wl.nil ?_
  refine At.env [(0, _), (1, _), (2, _)] ⟨by rfl, by rfl, by rfl, trivial⟩ ?_
  refine At.then_ ?_
  refine Wc.seq ?_
  -- R1
  rcases child_cases F id with hk | ⟨s, hs, h0⟩ | ⟨s, hs, h0⟩
  · skip
    refine Wc.region ?_
    refine Wl.val (Runs.move (by rfl)) rfl ?_
    refine Wl.val (Runs.move (by rfl)) rfl ?_
    refine Wl.call en_61 (by rfl) (child_none .here hG.there hk) rfl (fun x13 => ?_)
    try dsimp only
    refine Wl.val (Runs.move (by rfl)) rfl ?_
    refine Wl.val (Runs.extract (by rfl) (by rfl)) rfl ?_
    refine Wl.val (Runs.extract (by rfl) (by rfl)) rfl ?_
    refine Wl.val (Runs.extract (by rfl) (by rfl)) rfl ?_
    refine Wl.val (Runs.assign (by rfl)) rfl ?_
    refine Wl.val (Runs.assign (by rfl)) rfl ?_
    refine Wl.val (Runs.assign (by rfl)) rfl ?_
    refine Wl.nil ?_
    refine At.env [(2, _), (7, _), (9, _)] ⟨by rfl, by rfl, by rfl, trivial⟩ ?_
    refine At.then_ ?_
    refine Wc.seq ?_
    refine Wc.seq ?_
    -- R2
    refine Wc.region ?_
    refine Wl.val (Runs.move (by rfl)) rfl ?_
    refine Wl.val (Runs.nei1 ui_26 (by rfl)) rfl ?_
    refine Wl.nil ?_
    refine At.env [(2, _), (7, _), (9, _), (18, _)] ⟨by rfl, by rfl, by rfl, by rfl, trivial⟩ ?_
    refine At.then_ ?_
    refine Wc.ift (by rfl) ?_
    refine Wc.seq ?_
    -- R3
    refine Wc.region ?_
    refine Wl.val (Runs.move (by rfl)) rfl ?_
    refine Wl.val (Runs.assign (by rfl)) rfl ?_
    refine Wl.nil ?_
    refine At.env [(6, _)] ⟨by rfl, trivial⟩ ?_
    refine At.then_ ?_
    refine Wc.ret ?_
    repeat (first | refine At.thenRet ?_ | refine At.blockRet ?_)
    -- ret 0
    exact At.ret1 (⟨F, rfl, by rw [pSync_none (Fo.get_none hk)]⟩) rfl (by show _ = some (errV p _); rw [pSync_none (Fo.get_none hk)]; rfl) (fun _ h => h)
  · skip
    refine Wc.region ?_
    refine Wl.val (Runs.move (by rfl)) rfl ?_
    refine Wl.val (Runs.move (by rfl)) rfl ?_
    refine Wl.call en_61 (by rfl) (child_root .here hG.there hs h0) rfl (fun x13 => ?_)
    try dsimp only
    refine Wl.val (Runs.move (by rfl)) rfl ?_
    refine Wl.val (Runs.extract (by rfl) (by rfl)) rfl ?_
    refine Wl.val (Runs.extract (by rfl) (by rfl)) rfl ?_
    refine Wl.val (Runs.extract (by rfl) (by rfl)) rfl ?_
    refine Wl.val (Runs.assign (by rfl)) rfl ?_
    refine Wl.val (Runs.assign (by rfl)) rfl ?_
    refine Wl.val (Runs.assign (by rfl)) rfl ?_
    refine Wl.nil ?_
    refine At.env [(2, _), (7, _), (9, _)] ⟨by rfl, by rfl, by rfl, trivial⟩ ?_
    refine At.then_ ?_
    refine Wc.seq ?_
    refine Wc.seq ?_
    -- R2
    refine Wc.region ?_
    refine Wl.val (Runs.move (by rfl)) rfl ?_
    refine Wl.val (Runs.nei1 ui_26 (by rfl)) rfl ?_
    refine Wl.nil ?_
    refine At.env [(2, _), (7, _), (9, _), (18, _)] ⟨by rfl, by rfl, by rfl, by rfl, trivial⟩ ?_
    refine At.then_ ?_
    refine Wc.ift (by rfl) ?_
    refine Wc.seq ?_
    -- R3
    refine Wc.region ?_
    refine Wl.val (Runs.move (by rfl)) rfl ?_
    refine Wl.val (Runs.assign (by rfl)) rfl ?_
    refine Wl.nil ?_
    refine At.env [(6, _)] ⟨by rfl, trivial⟩ ?_
    refine At.then_ ?_
    refine Wc.ret ?_
    repeat (first | refine At.thenRet ?_ | refine At.blockRet ?_)
    -- ret 0
    exact At.ret1 (⟨F, rfl, by rw [pSync_root (Fo.get_some hs) h0]⟩) rfl (by show _ = some (errV p _); rw [pSync_root (Fo.get_some hs) h0]; rfl) (fun _ h => h)
  · skip
    refine Wc.region ?_
    refine Wl.val (Runs.move (by rfl)) rfl ?_
    refine Wl.val (Runs.move (by rfl)) rfl ?_
    refine Wl.call en_61 (by rfl) (child_ok .here hG.there hs h0) rfl (fun x13 => ?_)
    try dsimp only
    refine Wl.val (Runs.move (by rfl)) rfl ?_
    refine Wl.val (Runs.extract (by rfl) (by rfl)) rfl ?_
    refine Wl.val (Runs.extract (by rfl) (by rfl)) rfl ?_
    refine Wl.val (Runs.extract (by rfl) (by rfl)) rfl ?_
    refine Wl.val (Runs.assign (by rfl)) rfl ?_
    refine Wl.val (Runs.assign (by rfl)) rfl ?_
    refine Wl.val (Runs.assign (by rfl)) rfl ?_
    refine Wl.nil ?_
    refine At.env [(2, _), (7, _), (9, _)] ⟨by rfl, by rfl, by rfl, trivial⟩ ?_
    refine At.then_ ?_
    refine Wc.seq ?_
    refine Wc.seq ?_
    -- R2
    refine Wc.region ?_
    refine Wl.val (Runs.move (by rfl)) rfl ?_
    refine Wl.val (Runs.nei0 ui_26 (by rfl)) rfl ?_
    refine Wl.nil ?_
    refine At.env [(2, _), (7, _), (9, _), (18, _)] ⟨by rfl, by rfl, by rfl, by rfl, trivial⟩ ?_
    refine At.then_ ?_
    refine Wc.iff_ (by rfl) ?_
    refine Wc.skip ?_
    refine At.then_ ?_
    refine Wc.seq ?_
    -- R4
    refine Wc.mem (fun _ h => Fo.outG hs h) ?_
    refine Wc.region ?_
    refine Wl.val (Runs.move (by rfl)) rfl ?_
    refine Wl.val (Runs.move (by rfl)) rfl ?_
    refine Wl.val (Runs.nilCheck (by rfl)) rfl ?_
    refine Wl.val (Runs.field (by rfl) fa_82_2) rfl ?_
    refine Wl.act (Acts.store (vs := [_]) (by rfl) (by rfl) sz_4 (by rfl) (by rfl) (by rfl) (by repeat (first | exact Has.here | apply Has.there)) (by exact Nat.le_of_ble_eq_true rfl) (by simp only [Srf.cells, RSt.cells, List.cons_append, List.nil_append, wrs, List.set_cons_zero, List.set_cons_succ, Nat.reduceAdd, Nat.zero_add, Nat.add_zero]; rfl) (by repeat (first | exact UpdL.cel | apply UpdL.there))) ?_
    refine Wl.nil ?_
    refine At.env [] trivial ?_
    refine At.then_ ?_
    refine Wc.seq ?_
    -- R5
    refine Wc.region ?_
    refine Wl.val (Runs.assign (by rfl)) rfl ?_
    refine Wl.nil ?_
    refine At.env [(6, _)] ⟨by rfl, trivial⟩ ?_
    refine At.then_ ?_
    refine Wc.ret ?_
    repeat (first | refine At.thenRet ?_ | refine At.blockRet ?_)
    -- ret 0
    exact At.ret1 (⟨F.set id { s with sync := on }, rfl, by rw [pSync_ok (Fo.get_some hs) h0, Fo.set_abs]; rfl⟩) rfl (by show _ = some (errV p _); rw [pSync_ok (Fo.get_some hs) h0]; rfl) (fun _ h => Fo.backG hs { s with sync := on } rfl h)
end Go.Proofs.Sl

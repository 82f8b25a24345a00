/- Printed by a program of this session out of the translation (wip/tools/gen.py): walks. -/
import Derived.Test.YtlffcinkijlaiaaDoorFg
import Derived.Test.YtlffcinkijlaiaaDoorProg
import Derived.KernelRfl
namespace Go.Proofs.Sl
open Go
set_option linter.unusedVariables false
set_option linter.unusedSimpArgs false
set_option maxRecDepth 20000
theorem en_63 : Enters Tryd.prog 63 := fun _ _ => by kernel_rfl
theorem en_93 : Enters Tryd.prog 93 := fun _ _ => by kernel_rfl
theorem en_62 : Enters Tryd.prog 62 := fun _ _ => by kernel_rfl
theorem en_65 : Enters Tryd.prog 65 := fun _ _ => by kernel_rfl
theorem en_66 : Enters Tryd.prog 66 := fun _ _ => by kernel_rfl
theorem en_92 : Enters Tryd.prog 92 := fun _ _ => by kernel_rfl
theorem en_64 : Enters Tryd.prog 64 := fun _ _ => by kernel_rfl

theorem turn_none {R : List HP} {F : Fo} {p : Nat → Addr} (hG : Gl R p) {id : Int} (hk : look F.L id = none) {f : Value} : ∀ w, Sat w (F.hp :: R) → Calls Tryd.prog 62 #[.pointer (some ⟨F.f, 0, none⟩), .int .i64 id, f] w (Ret (α := Unit) (fun _ => errV p (some .object)) (fun _ => F.hp :: R)) := by
  refine Spec.enter (n := 22) (vs := [.pointer (some ⟨F.f, 0, none⟩), .int .i64 id, f]) Tryd.func62 rfl rfl rfl ?_
  dsimp only [enum, Nat.reduceAdd]
  refine Wc.seq ?_
  -- R0
  refine Wc.region ?_
  refine Wl.val (Runs.assign (by rfl)) rfl ?_
  refine Wl.nil ?_
  refine At.env [(0, _), (1, _), (2, _)] ⟨by rfl, by rfl, by rfl, trivial⟩ ?_
  refine At.then_ ?_
  refine Wc.seq ?_
  -- R1
  refine Wc.region ?_
  refine Wl.val (Runs.move (by rfl)) rfl ?_
  refine Wl.val (Runs.nilCheck (by rfl)) rfl ?_
  refine Wl.val (Runs.field (by rfl) fa_78_0) rfl ?_
  refine Wl.val (Runs.load1 (by rfl) fl_76 (by first | exact Has.fof | exact (Has.srf hs) | repeat (first | exact Has.here | apply Has.there)) (by rfl)) rfl ?_
  refine Wl.val (Runs.move (by rfl)) rfl ?_
  refine Wl.val (Runs.lookupv mp_76 (by rfl) (by rfl) (by first | exact Has.fomap | repeat (first | exact Has.imap | apply Has.there)) (look_n hk)) rfl ?_
  refine Wl.val (Runs.assign (by rfl)) rfl ?_
  refine Wl.nil ?_
  refine At.env [(2, _), (7, _)] ⟨by rfl, by rfl, trivial⟩ ?_
  refine At.then_ ?_
  refine Wc.seq ?_
  refine Wc.seq ?_
  -- R2
  refine Wc.region ?_
  refine Wl.val (Runs.move (by rfl)) rfl ?_
  refine Wl.val (Runs.eqp0 up_79 (by rfl)) rfl ?_
  refine Wl.nil ?_
  refine At.env [(2, _), (7, _), (15, _)] ⟨by rfl, by rfl, by rfl, trivial⟩ ?_
  refine At.then_ ?_
  refine Wc.ift (by rfl) ?_
  refine Wc.seq ?_
  -- R3
  refine Wc.region ?_
  refine Wl.val (Runs.loadG (by rfl) fl_26 (by repeat (first | exact hG.g .object | apply CelH.there))) rfl ?_
  refine Wl.val (Runs.assign (by rfl)) rfl ?_
  refine Wl.nil ?_
  refine At.env [(6, _)] ⟨by rfl, trivial⟩ ?_
  refine At.then_ ?_
  refine Wc.ret ?_
  repeat (first | refine At.thenRet ?_ | refine At.blockRet ?_)
  -- ret 0
  exact At.ret1 () rfl (by rfl) (fun _ h => h)

theorem turn_some {R : List HP} {F : Fo} {id : Int} {s : Srf} (hs : look F.L id = some s) {f : Nat} {cap : List Value} {g : PSt → PSt} (hf : Enters Tryd.prog f)
    (spec : ∀ w, Sat w (cel s.p 82 (s).cells :: Grp (s.pe).rows :: Grp s.ca.rows :: Grp s.cu.rows :: F.gap id :: R) → Calls Tryd.prog f ([Value.pointer (some ⟨s.p, 3, none⟩)] ++ cap).toArray w (Ret (α := { t : RSt // t.abs = g s.pe.abs }) (fun _ => .tuple #[]) (fun t => cel s.p 82 ({ s with pe := t.1 } : Srf).cells :: Grp (t.1).rows :: Grp s.ca.rows :: Grp s.cu.rows :: F.gap id :: R))) : ∀ w, Sat w (F.hp :: R) → Calls Tryd.prog 62 #[.pointer (some ⟨F.f, 0, none⟩), .int .i64 id, .func (.func f) #[] cap.toArray] w (Ret (α := { t : RSt // t.abs = g s.pe.abs }) (fun _ => .nilIface) (fun t => (F.set id { s with pe := t.1 }).hp :: R)) := by
  refine Spec.enter (n := 22) (vs := [.pointer (some ⟨F.f, 0, none⟩), .int .i64 id, .func (.func f) #[] cap.toArray]) Tryd.func62 rfl rfl rfl ?_
  dsimp only [enum, Nat.reduceAdd]
  refine Wc.seq ?_
  -- R0
  refine Wc.region ?_
  refine Wl.val (Runs.assign (by rfl)) rfl ?_
  refine Wl.nil ?_
  refine At.env [(0, _), (1, _), (2, _)] ⟨by rfl, by rfl, by rfl, trivial⟩ ?_
  refine At.then_ ?_
  refine Wc.seq ?_
  -- R1
  refine Wc.region ?_
  refine Wl.val (Runs.move (by rfl)) rfl ?_
  refine Wl.val (Runs.nilCheck (by rfl)) rfl ?_
  refine Wl.val (Runs.field (by rfl) fa_78_0) rfl ?_
  refine Wl.val (Runs.load1 (by rfl) fl_76 (by first | exact Has.fof | exact (Has.srf hs) | repeat (first | exact Has.here | apply Has.there)) (by rfl)) rfl ?_
  refine Wl.val (Runs.move (by rfl)) rfl ?_
  refine Wl.val (Runs.lookupv mp_76 (by rfl) (by rfl) (by first | exact Has.fomap | repeat (first | exact Has.imap | apply Has.there)) (look_v hs)) rfl ?_
  refine Wl.val (Runs.assign (by rfl)) rfl ?_
  refine Wl.nil ?_
  refine At.env [(2, _), (7, _)] ⟨by rfl, by rfl, trivial⟩ ?_
  refine At.then_ ?_
  refine Wc.seq ?_
  refine Wc.seq ?_
  -- R2
  refine Wc.region ?_
  refine Wl.val (Runs.move (by rfl)) rfl ?_
  refine Wl.val (Runs.eqp1 up_79 (by rfl)) rfl ?_
  refine Wl.nil ?_
  refine At.env [(2, _), (7, _), (15, _)] ⟨by rfl, by rfl, by rfl, trivial⟩ ?_
  refine At.then_ ?_
  refine Wc.iff_ (by rfl) ?_
  refine Wc.skip ?_
  refine At.then_ ?_
  refine Wc.seq ?_
  -- R4
  refine Wc.mem (fun _ h => Fo.outG hs h) ?_
  refine Wc.region ?_
  refine Wl.val (Runs.move (by rfl)) rfl ?_
  refine Wl.val (Runs.move (by rfl)) rfl ?_
  refine Wl.val (Runs.nilCheck (by rfl)) rfl ?_
  refine Wl.val (Runs.field (by rfl) fa_82_3) rfl ?_
  refine Wl.callv (cap := cap) (by rfl) hf (by rfl) spec rfl (fun t => ?_)
  try dsimp only
  refine Wl.nil ?_
  refine At.env [] trivial ?_
  refine At.then_ ?_
  refine Wc.seq ?_
  -- R5
  refine Wc.region ?_
  refine Wl.val (Runs.assign (by rfl)) rfl ?_
  refine Wl.nil ?_
  refine At.env [(6, _)] ⟨by rfl, trivial⟩ ?_
  refine At.then_ ?_
  refine Wc.ret ?_
  repeat (first | refine At.thenRet ?_ | refine At.blockRet ?_)
  -- ret 0
  exact At.ret1 t rfl (by rfl) (fun _ h => Fo.backG hs { s with pe := t.1 } rfl h)

theorem attach1_spec {M : List HP} {s : Srf} {cb : Nat} {b : Int} : ∀ w, Sat w (cel s.p 82 s.cells :: cel cb 3 [.int .i64 b] :: M) → Calls Tryd.prog 63 #[.pointer (some ⟨s.p, 3, none⟩), .pointer (some ⟨cb, 0, none⟩)] w (Ret (α := Unit) (fun _ => .tuple #[]) (fun _ => cel s.p 82 ({ s with pe := { s.pe with at_ := true, bu := b } } : Srf).cells :: cel cb 3 [.int .i64 b] :: M)) := by
  refine Spec.enter (n := 10) (vs := [.pointer (some ⟨s.p, 3, none⟩), .pointer (some ⟨cb, 0, none⟩)]) Tryd.func63 rfl rfl rfl ?_
  dsimp only [enum, Nat.reduceAdd]
  -- R0
  refine Wd.begin (fun i => !(Nat.beq i 8)) ([cel cb 3 [.int .i64 b]]) mixed ?_
  dsimp only [List.length_cons, List.length_nil, Nat.reduceAdd]
  refine Wd.takeP 0 rfl (by kernel_rfl) (by kernel_rfl) (by kernel_rfl) (fun _ _ _ _ h => h) (Runs.move (by rfl)) rfl ?_
  refine Wd.takeP 1 rfl (by kernel_rfl) (by kernel_rfl) (by kernel_rfl) (fun _ _ _ _ h => h) (Runs.move (by rfl)) rfl ?_
  refine Wd.takeR 2 rfl (by kernel_rfl) (by kernel_rfl) (by kernel_rfl) (fun _ _ _ _ h => h) (fun _ h => (by repeat (first | exact Inc.here | refine Inc.there ?_) : Inc _ _) _ h) (Runs.load1 (by rfl) fl_3 (by repeat (first | exact Has.here | apply Has.there)) (by rfl)) rfl ?_
  refine Wd.takeP 3 rfl (by kernel_rfl) (by kernel_rfl) (by kernel_rfl) (fun _ _ _ _ h => h) (Runs.nilCheck (by rfl)) rfl ?_
  refine Wd.takeP 4 rfl (by kernel_rfl) (by kernel_rfl) (by kernel_rfl) (fun _ _ _ _ h => h) (Runs.field (by rfl) fa_37_0) rfl ?_
  refine Wd.act 5 rfl (by kernel_rfl) (Acts.store (vs := [_]) (by rfl) (by rfl) sz_4 (by rfl) (by rfl) (by rfl) (by repeat (first | exact Has.here | apply Has.there)) (by exact Nat.le_of_ble_eq_true rfl) (by simp only [Srf.cells, RSt.cells, List.cons_append, List.nil_append, wrs, List.set_cons_zero, List.set_cons_succ, Nat.reduceAdd, Nat.zero_add, Nat.add_zero]; rfl) (by repeat (first | exact UpdL.cel | apply UpdL.there))) (fun _ => (fun _ h => (by repeat (first | exact Inc.here | refine Inc.there ?_) : Inc _ _) _ h)) ?_
  refine Wd.takeP 6 rfl (by kernel_rfl) (by kernel_rfl) (by kernel_rfl) (fun _ _ _ _ h => h) (Runs.nilCheck (by rfl)) rfl ?_
  refine Wd.takeP 7 rfl (by kernel_rfl) (by kernel_rfl) (by kernel_rfl) (fun _ _ _ _ h => h) (Runs.field (by rfl) fa_37_1) rfl ?_
  refine Wd.act 8 rfl (by kernel_rfl) (Acts.store (vs := [_]) (by rfl) (by rfl) sz_3 (by rfl) (by rfl) (by rfl) (by repeat (first | exact Has.here | apply Has.there)) (by exact Nat.le_of_ble_eq_true rfl) (by simp only [Srf.cells, RSt.cells, List.cons_append, List.nil_append, wrs, List.set_cons_zero, List.set_cons_succ, Nat.reduceAdd, Nat.zero_add, Nat.add_zero]; rfl) (by repeat (first | exact UpdL.cel | apply UpdL.there))) (fun h => (nomatch h)) ?_
  refine Wd.done (by kernel_rfl) ?_
  refine At.env [] trivial ?_
  -- end 0
  exact At.end0 () rfl rfl (fun _ h => h)

theorem attach_spec {R : List HP} {F : Fo} {p : Nat → Addr} (hG : Gl R p) {id b : Int} : ∀ w, Sat w (F.hp :: R) → Calls Tryd.prog 15 #[.pointer (some ⟨F.f, 0, none⟩), .int .i64 id, .int .i64 b] w (Ret (α := { F' : Fo // F'.f = F.f ∧ F'.abs = (pTurn F.abs id (fun s => { s with at_ := true, bu := b })).2 }) (fun _ => errV p (pTurn F.abs id (fun s => { s with at_ := true, bu := b })).1) (fun x => x.1.hp :: R)) := by
  refine Spec.enter (n := 11) (vs := [.pointer (some ⟨F.f, 0, none⟩), .int .i64 id, .int .i64 b]) Tryd.func15 rfl rfl rfl ?_
  dsimp only [enum, Nat.reduceAdd]
  refine Wc.seq ?_
  -- R0
  rcases hk : look F.L id with _ | s
  · skip
    refine Wc.region ?_
    refine Wl.valX (RunsX.box (cs := [_]) (by rfl) (by rfl)) rfl (fun b5 => ?_)
    try dsimp only
    refine Wl.val (Runs.assign (by rfl)) rfl ?_
    refine Wl.nil ?_
    refine At.env [(0, _), (1, _), (5, _)] ⟨by rfl, by rfl, by rfl, trivial⟩ ?_
    refine At.then_ ?_
    refine Wc.seq ?_
    -- R1
    refine Wc.region ?_
    refine Wl.val (Runs.move (by rfl)) rfl ?_
    refine Wl.val (Runs.move (by rfl)) rfl ?_
    refine Wl.val (Runs.makeFunc (by rfl)) rfl ?_
    refine Wl.mem (fun _ h => h.swap) ?_
    refine Wl.call en_62 (by rfl) (turn_none hG.there hk) rfl (fun x10 => ?_)
    try dsimp only
    refine Wl.val (Runs.assign (by rfl)) rfl ?_
    refine Wl.nil ?_
    refine At.env [(6, _)] ⟨by rfl, trivial⟩ ?_
    refine At.then_ ?_
    refine Wc.ret ?_
    repeat (first | refine At.thenRet ?_ | refine At.blockRet ?_)
    -- ret 0
    exact At.ret1 (⟨F, rfl, by rw [pTurn_none (Fo.get_none hk)]⟩) rfl (by show _ = some (errV p _); rw [pTurn_none (Fo.get_none hk)]; rfl) (fun _ h => h.swap.drop)
  · skip
    refine Wc.region ?_
    refine Wl.valX (RunsX.box (cs := [_]) (by rfl) (by rfl)) rfl (fun b5 => ?_)
    try dsimp only
    refine Wl.val (Runs.assign (by rfl)) rfl ?_
    refine Wl.nil ?_
    refine At.env [(0, _), (1, _), (5, _)] ⟨by rfl, by rfl, by rfl, trivial⟩ ?_
    refine At.then_ ?_
    refine Wc.seq ?_
    -- R1
    refine Wc.region ?_
    refine Wl.val (Runs.move (by rfl)) rfl ?_
    refine Wl.val (Runs.move (by rfl)) rfl ?_
    refine Wl.val (Runs.makeFunc (by rfl)) rfl ?_
    refine Wl.mem (fun _ h => h.swap) ?_
    refine Wl.call en_62 (by rfl) (turn_some (g := fun s => { s with at_ := true, bu := b }) (cap := [.pointer (some ⟨b5, 0, none⟩)]) hk en_63 (fun w hw => Ret.mono (attach1_spec (b := b) (M := Grp s.pe.rows :: Grp s.ca.rows :: Grp s.cu.rows :: F.gap id :: R) w hw.in2) (fun _ w' h => ⟨⟨{ s.pe with at_ := true, bu := b }, rfl⟩, rfl, Sat.out2 h⟩))) rfl (fun t => ?_)
    try dsimp only
    refine Wl.val (Runs.assign (by rfl)) rfl ?_
    refine Wl.nil ?_
    refine At.env [(6, _)] ⟨by rfl, trivial⟩ ?_
    refine At.then_ ?_
    refine Wc.ret ?_
    repeat (first | refine At.thenRet ?_ | refine At.blockRet ?_)
    -- ret 0
    exact At.ret1 (⟨F.set id { s with pe := t.1 }, rfl, by rw [pTurn_ok (Fo.get_some hk), Fo.set_abs]; exact congrArg (fun z => set F.abs id { s.abs with pe := z }) t.2⟩) rfl (by show _ = some (errV p _); rw [pTurn_ok (Fo.get_some hk)]; rfl) (fun _ h => h.swap.drop)

theorem frame1_spec {M : List HP} {s : Srf} {cb : Nat} {b : Int} (hb : s.pe.fr.xs.length ≤ 100000000) : ∀ w, Sat w (cel s.p 82 s.cells :: Grp s.pe.rows :: cel cb 3 [.int .i64 b] :: M) → Calls Tryd.prog 93 #[.pointer (some ⟨s.p, 3, none⟩), .pointer (some ⟨cb, 0, none⟩)] w (Ret (α := { q : Sli Int // q.xs = s.pe.fr.xs ++ [b] }) (fun _ => .tuple #[]) (fun q => cel s.p 82 ({ s with pe := { s.pe with fr := q.1 } } : Srf).cells :: Grp ({ s.pe with fr := q.1 } : RSt).rows :: cel cb 3 [.int .i64 b] :: M)) := by
  refine Spec.enter (n := 13) (vs := [.pointer (some ⟨s.p, 3, none⟩), .pointer (some ⟨cb, 0, none⟩)]) Tryd.func93 rfl rfl rfl ?_
  dsimp only [enum, Nat.reduceAdd]
  -- R0
  refine Wc.mem (L' := cel s.p 82 s.cells :: own encR s.pe.da :: own encI s.pe.fr :: own encR s.pe.re :: own encI s.pe.ol :: own encC s.pe.pl :: cel cb 3 [.int .i64 b] :: M) (fun _ h => (Grp.satMid [_] s.pe.rows _).1 h) ?_
  refine Wd.begin (fun i => !(Nat.beq i 10)) (cel s.p 82 s.cells :: cel cb 3 [.int .i64 b] :: M) mixed ?_
  dsimp only [List.length_cons, List.length_nil, Nat.reduceAdd]
  refine Wd.takeP 0 rfl (by kernel_rfl) (by kernel_rfl) (by kernel_rfl) (fun _ _ _ _ h => h) (Runs.move (by rfl)) rfl ?_
  refine Wd.takeP 1 rfl (by kernel_rfl) (by kernel_rfl) (by kernel_rfl) (fun _ _ _ _ h => h) (Runs.move (by rfl)) rfl ?_
  refine Wd.takeP 2 rfl (by kernel_rfl) (by kernel_rfl) (by kernel_rfl) (fun _ _ _ _ h => h) (Runs.nilCheck (by rfl)) rfl ?_
  refine Wd.takeP 3 rfl (by kernel_rfl) (by kernel_rfl) (by kernel_rfl) (fun _ _ _ _ h => h) (Runs.field (by rfl) fa_37_3) rfl ?_
  refine Wd.takeR 4 rfl (by kernel_rfl) (by kernel_rfl) (by kernel_rfl) (fun _ _ _ _ h => h) (fun _ h => Pick.sat (by refine Pick.cons (by repeat (first | exact Rem.here | apply Rem.there)) ?_; refine Pick.cons (by repeat (first | exact Rem.here | apply Rem.there)) ?_; repeat (first | exact Pick.refl | refine Pick.drop ?_)) h) (Runs.load1 (by rfl) fl_29 (by repeat (first | exact Has.here | apply Has.there)) (by rfl)) rfl ?_
  refine Wd.takeR 5 rfl (by kernel_rfl) (by kernel_rfl) (by kernel_rfl) (fun _ _ _ _ h => h) (fun _ h => Pick.sat (by refine Pick.cons (by repeat (first | exact Rem.here | apply Rem.there)) ?_; refine Pick.cons (by repeat (first | exact Rem.here | apply Rem.there)) ?_; repeat (first | exact Pick.refl | refine Pick.drop ?_)) h) (Runs.load1 (by rfl) fl_3 (by repeat (first | exact Has.here | apply Has.there)) (by rfl)) rfl ?_
  refine Wd.valX 6 rfl (by kernel_rfl) (RunsX.buildSlice (U := 3) (cs := [.int .i64 b]) (by rfl) (fun _ => by kernel_rfl)) (fun _ _ => (fun _ h => Pick.sat (by refine Pick.cons (by repeat (first | exact Rem.here | apply Rem.there)) ?_; refine Pick.cons (by repeat (first | exact Rem.here | apply Rem.there)) ?_; repeat (first | exact Pick.refl | refine Pick.drop ?_)) h)) rfl (fun b9 => ?_)
  try dsimp only
  refine Wd.valX 7 rfl (by kernel_rfl) (RunsX.append el_I rfl rfl (s := s.pe.fr) (r := ⟨some ⟨b9, 0, none⟩, 1, [b]⟩) (by rfl) (by rfl) (by repeat (first | exact Rem.here | apply Rem.there)) (.inr ⟨b9, 0, rfl, fun w hw j v hv => cell_at hw.get (by simpa [Enc.flat, encI] using hv)⟩) (by simp only [List.length_singleton]; omega)) (fun _ _ => (fun _ h => Pick.sat (by refine Pick.cons (by repeat (first | exact Rem.here | apply Rem.there)) ?_; refine Pick.cons (by repeat (first | exact Rem.here | apply Rem.there)) ?_; repeat (first | exact Pick.refl | refine Pick.drop ?_)) h)) rfl (fun q => ?_)
  try dsimp only
  refine Wd.takeP 8 rfl (by kernel_rfl) (by kernel_rfl) (by kernel_rfl) (fun _ _ _ _ h => h) (Runs.nilCheck (by rfl)) rfl ?_
  refine Wd.takeP 9 rfl (by kernel_rfl) (by kernel_rfl) (by kernel_rfl) (fun _ _ _ _ h => h) (Runs.field (by rfl) fa_37_3) rfl ?_
  refine Wd.act 10 rfl (by kernel_rfl) (Acts.store (vs := [_]) (by rfl) (by rfl) sz_29 (by rfl) (by rfl) (by rfl) (by repeat (first | exact Has.here | apply Has.there)) (by exact Nat.le_of_ble_eq_true rfl) (by simp only [Srf.cells, RSt.cells, List.cons_append, List.nil_append, wrs, List.set_cons_zero, List.set_cons_succ, Nat.reduceAdd, Nat.zero_add, Nat.add_zero]; rfl) (by repeat (first | exact UpdL.cel | apply UpdL.there))) (fun h => (nomatch h)) ?_
  refine Wd.done (by kernel_rfl) ?_
  refine At.env [] trivial ?_
  -- end 0
  exact At.end0 q rfl rfl (fun w h => (Grp.satMid [_] ({ s.pe with fr := q.1 } : RSt).rows _).2 ((fun _ h => Pick.sat (by refine Pick.cons (by repeat (first | exact Rem.here | apply Rem.there)) ?_; refine Pick.cons (by repeat (first | exact Rem.here | apply Rem.there)) ?_; refine Pick.cons (by repeat (first | exact Rem.here | apply Rem.there)) ?_; refine Pick.cons (by repeat (first | exact Rem.here | apply Rem.there)) ?_; refine Pick.cons (by repeat (first | exact Rem.here | apply Rem.there)) ?_; refine Pick.cons (by repeat (first | exact Rem.here | apply Rem.there)) ?_; refine Pick.cons (by repeat (first | exact Rem.here | apply Rem.there)) ?_; repeat (first | exact Pick.refl | refine Pick.drop ?_)) h) w h))

theorem frame_spec {R : List HP} {F : Fo} {p : Nat → Addr} (hG : Gl R p) {id b : Int} {n : Nat} (hl : Lim n F.abs) (hn : n ≤ 1000000) : ∀ w, Sat w (F.hp :: R) → Calls Tryd.prog 67 #[.pointer (some ⟨F.f, 0, none⟩), .int .i64 id, .int .i64 b] w (Ret (α := { F' : Fo // F'.f = F.f ∧ F'.abs = (pTurn F.abs id (fun s => { s with fr := s.fr ++ [b] })).2 }) (fun _ => errV p (pTurn F.abs id (fun s => { s with fr := s.fr ++ [b] })).1) (fun x => x.1.hp :: R)) := by
  refine Spec.enter (n := 11) (vs := [.pointer (some ⟨F.f, 0, none⟩), .int .i64 id, .int .i64 b]) Tryd.func67 rfl rfl rfl ?_
  dsimp only [enum, Nat.reduceAdd]
  refine Wc.seq ?_
  -- R0
  rcases hk : look F.L id with _ | s
  · skip
    refine Wc.region ?_
    refine Wl.valX (RunsX.box (cs := [_]) (by rfl) (by rfl)) rfl (fun b5 => ?_)
    try dsimp only
    refine Wl.val (Runs.assign (by rfl)) rfl ?_
    refine Wl.nil ?_
    refine At.env [(0, _), (1, _), (5, _)] ⟨by rfl, by rfl, by rfl, trivial⟩ ?_
    refine At.then_ ?_
    refine Wc.seq ?_
    -- R1
    refine Wc.region ?_
    refine Wl.val (Runs.move (by rfl)) rfl ?_
    refine Wl.val (Runs.move (by rfl)) rfl ?_
    refine Wl.val (Runs.makeFunc (by rfl)) rfl ?_
    refine Wl.mem (fun _ h => h.swap) ?_
    refine Wl.call en_62 (by rfl) (turn_none hG.there hk) rfl (fun x10 => ?_)
    try dsimp only
    refine Wl.val (Runs.assign (by rfl)) rfl ?_
    refine Wl.nil ?_
    refine At.env [(6, _)] ⟨by rfl, trivial⟩ ?_
    refine At.then_ ?_
    refine Wc.ret ?_
    repeat (first | refine At.thenRet ?_ | refine At.blockRet ?_)
    -- ret 0
    exact At.ret1 (⟨F, rfl, by rw [pTurn_none (Fo.get_none hk)]⟩) rfl (by show _ = some (errV p _); rw [pTurn_none (Fo.get_none hk)]; rfl) (fun _ h => h.swap.drop)
  · skip
    refine Wc.region ?_
    refine Wl.valX (RunsX.box (cs := [_]) (by rfl) (by rfl)) rfl (fun b5 => ?_)
    try dsimp only
    refine Wl.val (Runs.assign (by rfl)) rfl ?_
    refine Wl.nil ?_
    refine At.env [(0, _), (1, _), (5, _)] ⟨by rfl, by rfl, by rfl, trivial⟩ ?_
    refine At.then_ ?_
    refine Wc.seq ?_
    -- R1
    refine Wc.region ?_
    refine Wl.val (Runs.move (by rfl)) rfl ?_
    refine Wl.val (Runs.move (by rfl)) rfl ?_
    refine Wl.val (Runs.makeFunc (by rfl)) rfl ?_
    refine Wl.mem (fun _ h => h.swap) ?_
    refine Wl.call en_62 (by rfl) (turn_some (g := fun s => { s with fr := s.fr ++ [b] }) (cap := [.pointer (some ⟨b5, 0, none⟩)]) hk en_93 (fun w hw => Ret.mono (frame1_spec (b := b) (M := Grp s.ca.rows :: Grp s.cu.rows :: F.gap id :: R) ((hl.small hn hk).1.fr) w hw.in3) (fun q w' h => ⟨⟨{ s.pe with fr := q.1 }, by simp only [RSt.abs, q.2]⟩, rfl, Sat.out3 h⟩))) rfl (fun t => ?_)
    try dsimp only
    refine Wl.val (Runs.assign (by rfl)) rfl ?_
    refine Wl.nil ?_
    refine At.env [(6, _)] ⟨by rfl, trivial⟩ ?_
    refine At.then_ ?_
    refine Wc.ret ?_
    repeat (first | refine At.thenRet ?_ | refine At.blockRet ?_)
    -- ret 0
    exact At.ret1 (⟨F.set id { s with pe := t.1 }, rfl, by rw [pTurn_ok (Fo.get_some hk), Fo.set_abs]; exact congrArg (fun z => set F.abs id { s.abs with pe := z }) t.2⟩) rfl (by show _ = some (errV p _); rw [pTurn_ok (Fo.get_some hk)]; rfl) (fun _ h => h.swap.drop)

theorem own_spec {L : List HP} {m : RSt} (hr : RSt.Rd L m) (hs : m.Small) : ∀ w, Sat w (L) → Calls Tryd.prog 92 #[.agg m.cells.toArray] w (Ret (α := { r : RSt // r.abs = m.abs }) (fun r => .agg r.1.cells.toArray) (fun r => r.1.rows ++ L)) := by
  refine Spec.enter (n := 6) (vs := [.agg m.cells.toArray]) Tryd.func92 rfl rfl rfl ?_
  dsimp only [enum, Nat.reduceAdd]
  refine Wc.seq ?_
  -- R0
  refine Wc.region ?_
  refine Wl.valX (RunsX.box (cs := [.bool m.at_, .int .i64 m.bu, m.da.v, m.fr.v, .bool m.inp, .bool m.all, m.re.v, .bool m.ord, m.ol.v, m.pl.v]) (by rfl) (by rfl)) rfl (fun b1 => ?_)
  try dsimp only
  refine Wl.valX (RunsX.alloc (cs := [.bool false, .int .i64 0, .slice none 0 0, .slice none 0 0, .bool false, .bool false, .slice none 0 0, .bool false, .slice none 0 0, .slice none 0 0]) zr_37 rfl) rfl (fun b2 => ?_)
  try dsimp only
  refine Wl.nil ?_
  refine At.env [(1, _), (2, _)] ⟨by rfl, by rfl, trivial⟩ ?_
  refine At.then_ ?_
  refine Wc.seq ?_
  -- R1
  refine Wc.region ?_
  refine Wl.val (Runs.loadN (vs := [.bool m.at_, .int .i64 m.bu, m.da.v, m.fr.v, .bool m.inp, .bool m.all, m.re.v, .bool m.ord, m.ol.v, m.pl.v]) (by rfl) ag_37 (by repeat (first | exact Has.here | apply Has.there)) (by rfl) (by rfl)) rfl ?_
  refine Wl.val (Runs.build (v := .agg #[.bool false, .int .i64 0, .slice none 0 0, .slice none 0 0, .bool false, .bool false, .slice none 0 0, .bool false, .slice none 0 0, .slice none 0 0]) (by rfl) (fun _ => by kernel_rfl)) rfl ?_
  refine Wl.call en_57 (by rfl) (merge_spec (m2 := .zero) (hr.weak (fun _ h => h.drop.drop)) .zero hs ⟨by decide, by decide, by decide, by decide, by decide⟩) rfl (fun q => ?_)
  try dsimp only
  refine Wl.mem (L' := own encR q.1.da :: own encI q.1.fr :: own encR q.1.re :: own encI q.1.ol :: own encC q.1.pl :: cel b2 37 [.bool false, .int .i64 0, .slice none 0 0, .slice none 0 0, .bool false, .bool false, .slice none 0 0, .bool false, .slice none 0 0, .slice none 0 0] :: L) (fun _ h => Pick.sat (by refine Pick.cons (by repeat (first | exact Rem.here | apply Rem.there)) ?_; refine Pick.cons (by repeat (first | exact Rem.here | apply Rem.there)) ?_; refine Pick.cons (by repeat (first | exact Rem.here | apply Rem.there)) ?_; refine Pick.cons (by repeat (first | exact Rem.here | apply Rem.there)) ?_; refine Pick.cons (by repeat (first | exact Rem.here | apply Rem.there)) ?_; refine Pick.cons (by repeat (first | exact Rem.here | apply Rem.there)) ?_; repeat (first | exact Pick.refl | refine Pick.drop ?_)) h) ?_
  refine Wl.act (Acts.store (vs := [.bool q.1.at_, .int .i64 q.1.bu, q.1.da.v, q.1.fr.v, .bool q.1.inp, .bool q.1.all, q.1.re.v, .bool q.1.ord, q.1.ol.v, q.1.pl.v]) (by rfl) (by rfl) sz_37 (by rfl) (by rfl) (by rfl) (by repeat (first | exact Has.here | apply Has.there)) (by exact Nat.le_of_ble_eq_true rfl) (by simp only [Srf.cells, RSt.cells, List.cons_append, List.nil_append, wrs, List.set_cons_zero, List.set_cons_succ, Nat.reduceAdd, Nat.zero_add, Nat.add_zero]; rfl) (by repeat (first | exact UpdL.cel | apply UpdL.there))) ?_
  refine Wl.nil ?_
  refine At.env [(2, _)] ⟨by rfl, trivial⟩ ?_
  refine At.then_ ?_
  refine Wc.ret ?_
  repeat (first | refine At.thenRet ?_ | refine At.blockRet ?_)
  -- ret 0
  exact At.retN (⟨q.1, by rw [q.2]; exact PSt.merge_zero _⟩) rfl (by rfl) ag_37 (by repeat (first | exact Has.here | apply Has.there)) (vs := [_, _, _, _, _, _, _, _, _, _]) (by rfl) (by rfl) (by rfl) (fun w h => (fun _ h => Pick.sat (by refine Pick.cons (by repeat (first | exact Rem.here | apply Rem.there)) ?_; refine Pick.cons (by repeat (first | exact Rem.here | apply Rem.there)) ?_; refine Pick.cons (by repeat (first | exact Rem.here | apply Rem.there)) ?_; refine Pick.cons (by repeat (first | exact Rem.here | apply Rem.there)) ?_; refine Pick.cons (by repeat (first | exact Rem.here | apply Rem.there)) ?_; repeat (first | exact Pick.refl | refine Pick.drop ?_)) h) w h)

theorem cu1_spec {L : List HP} {F : Fo} (hi : Inc L F.hp) {id : Int} {s : Srf} (hs : look F.L id = some s) : ∀ w, Sat w (L) → Calls Tryd.prog 65 #[.pointer (some ⟨s.p, 0, none⟩)] w (Ret (α := Unit) (fun _ => .agg s.cu.cells.toArray) (fun _ => L)) := by
  refine Spec.enter (n := 7) (vs := [.pointer (some ⟨s.p, 0, none⟩)]) Tryd.func65 rfl rfl rfl ?_
  dsimp only [enum, Nat.reduceAdd]
  refine Wc.seq ?_
  -- R0
  refine Wc.region ?_
  refine Wl.valX (RunsX.alloc (cs := [.bool false, .int .i64 0, .slice none 0 0, .slice none 0 0, .bool false, .bool false, .slice none 0 0, .bool false, .slice none 0 0, .slice none 0 0]) zr_37 rfl) rfl (fun b2 => ?_)
  try dsimp only
  refine Wl.nil ?_
  refine At.env [(0, _), (2, _)] ⟨by rfl, by rfl, trivial⟩ ?_
  refine At.then_ ?_
  refine Wc.seq ?_
  -- R1
  refine Wc.region ?_
  refine Wl.val (Runs.move (by rfl)) rfl ?_
  refine Wl.val (Runs.nilCheck (by rfl)) rfl ?_
  refine Wl.val (Runs.field (by rfl) fa_82_5) rfl ?_
  refine Wl.val (Runs.loadN (vs := [.bool s.cu.at_, .int .i64 s.cu.bu, s.cu.da.v, s.cu.fr.v, .bool s.cu.inp, .bool s.cu.all, s.cu.re.v, .bool s.cu.ord, s.cu.ol.v, s.cu.pl.v]) (by rfl) ag_37 (by first | exact (hi.there.srf hs) | repeat (first | exact Has.here | apply Has.there)) (by rfl) (by rfl)) rfl ?_
  refine Wl.act (Acts.store (vs := [.bool s.cu.at_, .int .i64 s.cu.bu, s.cu.da.v, s.cu.fr.v, .bool s.cu.inp, .bool s.cu.all, s.cu.re.v, .bool s.cu.ord, s.cu.ol.v, s.cu.pl.v]) (by rfl) (by rfl) sz_37 (by rfl) (by rfl) (by rfl) (by repeat (first | exact Has.here | apply Has.there)) (by exact Nat.le_of_ble_eq_true rfl) (by simp only [Srf.cells, RSt.cells, List.cons_append, List.nil_append, wrs, List.set_cons_zero, List.set_cons_succ, Nat.reduceAdd, Nat.zero_add, Nat.add_zero]; rfl) (by repeat (first | exact UpdL.cel | apply UpdL.there))) ?_
  refine Wl.nil ?_
  refine At.env [(2, _)] ⟨by rfl, trivial⟩ ?_
  refine At.then_ ?_
  refine Wc.ret ?_
  repeat (first | refine At.thenRet ?_ | refine At.blockRet ?_)
  -- ret 0
  exact At.retN () rfl (by rfl) ag_37 (by repeat (first | exact Has.here | apply Has.there)) (vs := [_, _, _, _, _, _, _, _, _, _]) (by rfl) (by rfl) (by rfl) (fun _ h => h.drop)

theorem ca1_spec {L : List HP} {F : Fo} (hi : Inc L F.hp) {id : Int} {s : Srf} (hs : look F.L id = some s) : ∀ w, Sat w (L) → Calls Tryd.prog 66 #[.pointer (some ⟨s.p, 0, none⟩)] w (Ret (α := Unit) (fun _ => .agg s.ca.cells.toArray) (fun _ => L)) := by
  refine Spec.enter (n := 7) (vs := [.pointer (some ⟨s.p, 0, none⟩)]) Tryd.func66 rfl rfl rfl ?_
  dsimp only [enum, Nat.reduceAdd]
  refine Wc.seq ?_
  -- R0
  refine Wc.region ?_
  refine Wl.valX (RunsX.alloc (cs := [.bool false, .int .i64 0, .slice none 0 0, .slice none 0 0, .bool false, .bool false, .slice none 0 0, .bool false, .slice none 0 0, .slice none 0 0]) zr_37 rfl) rfl (fun b2 => ?_)
  try dsimp only
  refine Wl.nil ?_
  refine At.env [(0, _), (2, _)] ⟨by rfl, by rfl, trivial⟩ ?_
  refine At.then_ ?_
  refine Wc.seq ?_
  -- R1
  refine Wc.region ?_
  refine Wl.val (Runs.move (by rfl)) rfl ?_
  refine Wl.val (Runs.nilCheck (by rfl)) rfl ?_
  refine Wl.val (Runs.field (by rfl) fa_82_4) rfl ?_
  refine Wl.val (Runs.loadN (vs := [.bool s.ca.at_, .int .i64 s.ca.bu, s.ca.da.v, s.ca.fr.v, .bool s.ca.inp, .bool s.ca.all, s.ca.re.v, .bool s.ca.ord, s.ca.ol.v, s.ca.pl.v]) (by rfl) ag_37 (by first | exact (hi.there.srf hs) | repeat (first | exact Has.here | apply Has.there)) (by rfl) (by rfl)) rfl ?_
  refine Wl.act (Acts.store (vs := [.bool s.ca.at_, .int .i64 s.ca.bu, s.ca.da.v, s.ca.fr.v, .bool s.ca.inp, .bool s.ca.all, s.ca.re.v, .bool s.ca.ord, s.ca.ol.v, s.ca.pl.v]) (by rfl) (by rfl) sz_37 (by rfl) (by rfl) (by rfl) (by repeat (first | exact Has.here | apply Has.there)) (by exact Nat.le_of_ble_eq_true rfl) (by simp only [Srf.cells, RSt.cells, List.cons_append, List.nil_append, wrs, List.set_cons_zero, List.set_cons_succ, Nat.reduceAdd, Nat.zero_add, Nat.add_zero]; rfl) (by repeat (first | exact UpdL.cel | apply UpdL.there))) ?_
  refine Wl.nil ?_
  refine At.env [(2, _)] ⟨by rfl, trivial⟩ ?_
  refine At.then_ ?_
  refine Wc.ret ?_
  repeat (first | refine At.thenRet ?_ | refine At.blockRet ?_)
  -- ret 0
  exact At.retN () rfl (by rfl) ag_37 (by repeat (first | exact Has.here | apply Has.there)) (vs := [_, _, _, _, _, _, _, _, _, _]) (by rfl) (by rfl) (by rfl) (fun _ h => h.drop)

theorem of_none {L : List HP} {F : Fo} (hi : Inc L F.hp) {id : Int} (hk : look F.L id = none) {f : Value} : ∀ w, Sat w (L) → Calls Tryd.prog 64 #[.pointer (some ⟨F.f, 0, none⟩), .int .i64 id, f] w (Ret (α := Unit) (fun _ => .agg RSt.zero.cells.toArray) (fun _ => L)) := by
  refine Spec.enter (n := 21) (vs := [.pointer (some ⟨F.f, 0, none⟩), .int .i64 id, f]) Tryd.func64 rfl rfl rfl ?_
  dsimp only [enum, Nat.reduceAdd]
  refine Wc.seq ?_
  -- R0
  refine Wc.region ?_
  refine Wl.valX (RunsX.alloc (cs := [.bool false, .int .i64 0, .slice none 0 0, .slice none 0 0, .bool false, .bool false, .slice none 0 0, .bool false, .slice none 0 0, .slice none 0 0]) zr_37 rfl) rfl (fun b6 => ?_)
  try dsimp only
  refine Wl.nil ?_
  refine At.env [(0, _), (1, _), (2, _), (6, _)] ⟨by rfl, by rfl, by rfl, by rfl, trivial⟩ ?_
  refine At.then_ ?_
  refine Wc.seq ?_
  -- R1
  refine Wc.region ?_
  refine Wl.val (Runs.move (by rfl)) rfl ?_
  refine Wl.val (Runs.nilCheck (by rfl)) rfl ?_
  refine Wl.val (Runs.field (by rfl) fa_78_0) rfl ?_
  refine Wl.val (Runs.load1 (by rfl) fl_76 (by first | exact hi.there.fof | repeat (first | exact Has.here | apply Has.there)) (by rfl)) rfl ?_
  refine Wl.val (Runs.move (by rfl)) rfl ?_
  refine Wl.val (Runs.lookupv mp_76 (by rfl) (by rfl) (by first | exact hi.there.fomap | repeat (first | exact Has.imap | apply Has.there)) (look_n hk)) rfl ?_
  refine Wl.val (Runs.assign (by rfl)) rfl ?_
  refine Wl.nil ?_
  refine At.env [(2, _), (6, _), (7, _)] ⟨by rfl, by rfl, by rfl, trivial⟩ ?_
  refine At.then_ ?_
  refine Wc.seq ?_
  refine Wc.seq ?_
  -- R2
  refine Wc.region ?_
  refine Wl.val (Runs.move (by rfl)) rfl ?_
  refine Wl.val (Runs.eqp0 up_79 (by rfl)) rfl ?_
  refine Wl.nil ?_
  refine At.env [(2, _), (6, _), (7, _), (15, _)] ⟨by rfl, by rfl, by rfl, by rfl, trivial⟩ ?_
  refine At.then_ ?_
  refine Wc.ift (by rfl) ?_
  refine Wc.seq ?_
  -- R3
  refine Wc.region ?_
  refine Wl.val (Runs.build (v := .agg #[.bool false, .int .i64 0, .slice none 0 0, .slice none 0 0, .bool false, .bool false, .slice none 0 0, .bool false, .slice none 0 0, .slice none 0 0]) (by rfl) (fun _ => by kernel_rfl)) rfl ?_
  refine Wl.act (Acts.store (vs := [.bool false, .int .i64 0, .slice none 0 0, .slice none 0 0, .bool false, .bool false, .slice none 0 0, .bool false, .slice none 0 0, .slice none 0 0]) (by rfl) (by rfl) sz_37 (by rfl) (by rfl) (by rfl) (by repeat (first | exact Has.here | apply Has.there)) (by exact Nat.le_of_ble_eq_true rfl) (by simp only [Srf.cells, RSt.cells, List.cons_append, List.nil_append, wrs, List.set_cons_zero, List.set_cons_succ, Nat.reduceAdd, Nat.zero_add, Nat.add_zero]; rfl) (by repeat (first | exact UpdL.cel | apply UpdL.there))) ?_
  refine Wl.nil ?_
  refine At.env [(6, _)] ⟨by rfl, trivial⟩ ?_
  refine At.then_ ?_
  refine Wc.ret ?_
  repeat (first | refine At.thenRet ?_ | refine At.blockRet ?_)
  -- ret 0
  exact At.retN () rfl (by rfl) ag_37 (by repeat (first | exact Has.here | apply Has.there)) (vs := [_, _, _, _, _, _, _, _, _, _]) (by rfl) (by rfl) (by rfl) (fun _ h => h.drop)

theorem of_some {L : List HP} {F : Fo} (hi : Inc L F.hp) {id : Int} {s : Srf} (hs : look F.L id = some s) {f : Nat} (hf : Enters Tryd.prog f) (g : Srf → RSt)
    (spec : ∀ L, Inc L F.hp → ∀ w, Sat w L → Calls Tryd.prog f [.pointer (some ⟨s.p, 0, none⟩)].toArray w (Ret (α := Unit) (fun _ => .agg (g s).cells.toArray) (fun _ => L))) (hr : ∀ L, Inc L F.hp → (∃ w, Sat w L) → RSt.Rd L (g s)) (hm : (g s).Small) : ∀ w, Sat w (L) → Calls Tryd.prog 64 #[.pointer (some ⟨F.f, 0, none⟩), .int .i64 id, .func (.func f) #[] #[]] w (Ret (α := { r : RSt // r.abs = (g s).abs }) (fun r => .agg r.1.cells.toArray) (fun r => r.1.rows ++ L)) := by
  refine Spec.enter (n := 21) (vs := [.pointer (some ⟨F.f, 0, none⟩), .int .i64 id, .func (.func f) #[] #[]]) Tryd.func64 rfl rfl rfl ?_
  dsimp only [enum, Nat.reduceAdd]
  refine Wc.seq ?_
  -- R0
  refine Wc.region ?_
  refine Wl.valX (RunsX.alloc (cs := [.bool false, .int .i64 0, .slice none 0 0, .slice none 0 0, .bool false, .bool false, .slice none 0 0, .bool false, .slice none 0 0, .slice none 0 0]) zr_37 rfl) rfl (fun b6 => ?_)
  try dsimp only
  refine Wl.nil ?_
  refine At.env [(0, _), (1, _), (2, _), (6, _)] ⟨by rfl, by rfl, by rfl, by rfl, trivial⟩ ?_
  refine At.then_ ?_
  refine Wc.seq ?_
  -- R1
  refine Wc.region ?_
  refine Wl.val (Runs.move (by rfl)) rfl ?_
  refine Wl.val (Runs.nilCheck (by rfl)) rfl ?_
  refine Wl.val (Runs.field (by rfl) fa_78_0) rfl ?_
  refine Wl.val (Runs.load1 (by rfl) fl_76 (by first | exact hi.there.fof | repeat (first | exact Has.here | apply Has.there)) (by rfl)) rfl ?_
  refine Wl.val (Runs.move (by rfl)) rfl ?_
  refine Wl.val (Runs.lookupv mp_76 (by rfl) (by rfl) (by first | exact hi.there.fomap | repeat (first | exact Has.imap | apply Has.there)) (look_v hs)) rfl ?_
  refine Wl.val (Runs.assign (by rfl)) rfl ?_
  refine Wl.nil ?_
  refine At.env [(2, _), (6, _), (7, _)] ⟨by rfl, by rfl, by rfl, trivial⟩ ?_
  refine At.then_ ?_
  refine Wc.seq ?_
  refine Wc.seq ?_
  -- R2
  refine Wc.region ?_
  refine Wl.val (Runs.move (by rfl)) rfl ?_
  refine Wl.val (Runs.eqp1 up_79 (by rfl)) rfl ?_
  refine Wl.nil ?_
  refine At.env [(2, _), (6, _), (7, _), (15, _)] ⟨by rfl, by rfl, by rfl, by rfl, trivial⟩ ?_
  refine At.then_ ?_
  refine Wc.iff_ (by rfl) ?_
  refine Wc.skip ?_
  refine At.then_ ?_
  refine Wc.seq ?_
  -- R4
  refine Wc.region ?_
  refine Wl.val (Runs.move (by rfl)) rfl ?_
  refine Wl.val (Runs.move (by rfl)) rfl ?_
  refine Wl.callv (cap := []) (vs := [Value.pointer (some ⟨s.p, 0, none⟩)]) (by rfl) hf (by rfl) (spec _ hi.there) rfl (fun _ => ?_)
  try dsimp only
  refine Wl.call en_92 (by rfl) (fun w hw => own_spec (hr _ hi.there ⟨w, hw⟩) hm w hw) rfl (fun q => ?_)
  try dsimp only
  refine Wl.mem (L' := own encR q.1.da :: own encI q.1.fr :: own encR q.1.re :: own encI q.1.ol :: own encC q.1.pl :: cel b6 37 [.bool false, .int .i64 0, .slice none 0 0, .slice none 0 0, .bool false, .bool false, .slice none 0 0, .bool false, .slice none 0 0, .slice none 0 0] :: L) (fun _ h => Pick.sat (by refine Pick.cons (by repeat (first | exact Rem.here | apply Rem.there)) ?_; refine Pick.cons (by repeat (first | exact Rem.here | apply Rem.there)) ?_; refine Pick.cons (by repeat (first | exact Rem.here | apply Rem.there)) ?_; refine Pick.cons (by repeat (first | exact Rem.here | apply Rem.there)) ?_; refine Pick.cons (by repeat (first | exact Rem.here | apply Rem.there)) ?_; refine Pick.cons (by repeat (first | exact Rem.here | apply Rem.there)) ?_; repeat (first | exact Pick.refl | refine Pick.drop ?_)) h) ?_
  refine Wl.act (Acts.store (vs := [.bool q.1.at_, .int .i64 q.1.bu, q.1.da.v, q.1.fr.v, .bool q.1.inp, .bool q.1.all, q.1.re.v, .bool q.1.ord, q.1.ol.v, q.1.pl.v]) (by rfl) (by rfl) sz_37 (by rfl) (by rfl) (by rfl) (by repeat (first | exact Has.here | apply Has.there)) (by exact Nat.le_of_ble_eq_true rfl) (by simp only [Srf.cells, RSt.cells, List.cons_append, List.nil_append, wrs, List.set_cons_zero, List.set_cons_succ, Nat.reduceAdd, Nat.zero_add, Nat.add_zero]; rfl) (by repeat (first | exact UpdL.cel | apply UpdL.there))) ?_
  refine Wl.nil ?_
  refine At.env [(6, _)] ⟨by rfl, trivial⟩ ?_
  refine At.then_ ?_
  refine Wc.ret ?_
  repeat (first | refine At.thenRet ?_ | refine At.blockRet ?_)
  -- ret 0
  exact At.retN q rfl (by rfl) ag_37 (by repeat (first | exact Has.here | apply Has.there)) (vs := [_, _, _, _, _, _, _, _, _, _]) (by rfl) (by rfl) (by rfl) (fun w h => (fun _ h => Pick.sat (by refine Pick.cons (by repeat (first | exact Rem.here | apply Rem.there)) ?_; refine Pick.cons (by repeat (first | exact Rem.here | apply Rem.there)) ?_; refine Pick.cons (by repeat (first | exact Rem.here | apply Rem.there)) ?_; refine Pick.cons (by repeat (first | exact Rem.here | apply Rem.there)) ?_; refine Pick.cons (by repeat (first | exact Rem.here | apply Rem.there)) ?_; repeat (first | exact Pick.refl | refine Pick.drop ?_)) h) w h)

theorem cu_spec {L : List HP} {F : Fo} (hi : Inc L F.hp) {id : Int} {n : Nat} (hl : Lim n F.abs) (hn : n ≤ 1000000) : ∀ w, Sat w (L) → Calls Tryd.prog 16 #[.pointer (some ⟨F.f, 0, none⟩), .int .i64 id] w (Ret (α := { r : RSt // r.abs = pCur F.abs id }) (fun r => .agg r.1.cells.toArray) (fun r => r.1.rows ++ L)) := by
  refine Spec.enter (n := 8) (vs := [.pointer (some ⟨F.f, 0, none⟩), .int .i64 id]) Tryd.func16 rfl rfl rfl ?_
  dsimp only [enum, Nat.reduceAdd]
  refine Wc.seq ?_
  -- R0
  refine Wc.region ?_
  refine Wl.valX (RunsX.alloc (cs := [.bool false, .int .i64 0, .slice none 0 0, .slice none 0 0, .bool false, .bool false, .slice none 0 0, .bool false, .slice none 0 0, .slice none 0 0]) zr_37 rfl) rfl (fun b4 => ?_)
  try dsimp only
  refine Wl.nil ?_
  refine At.env [(0, _), (1, _), (4, _)] ⟨by rfl, by rfl, by rfl, trivial⟩ ?_
  refine At.then_ ?_
  refine Wc.seq ?_
  -- R1
  rcases hk : look F.L id with _ | s
  · skip
    refine Wc.region ?_
    refine Wl.val (Runs.move (by rfl)) rfl ?_
    refine Wl.val (Runs.move (by rfl)) rfl ?_
    refine Wl.call en_64 (by rfl) (of_none hi.there hk) rfl (fun x7 => ?_)
    try dsimp only
    refine Wl.act (Acts.store (vs := [.bool false, .int .i64 0, .slice none 0 0, .slice none 0 0, .bool false, .bool false, .slice none 0 0, .bool false, .slice none 0 0, .slice none 0 0]) (by rfl) (by rfl) sz_37 (by rfl) (by rfl) (by rfl) (by repeat (first | exact Has.here | apply Has.there)) (by exact Nat.le_of_ble_eq_true rfl) (by simp only [Srf.cells, RSt.cells, List.cons_append, List.nil_append, wrs, List.set_cons_zero, List.set_cons_succ, Nat.reduceAdd, Nat.zero_add, Nat.add_zero]; rfl) (by repeat (first | exact UpdL.cel | apply UpdL.there))) ?_
    refine Wl.nil ?_
    refine At.env [(4, _)] ⟨by rfl, trivial⟩ ?_
    refine At.then_ ?_
    refine Wc.ret ?_
    repeat (first | refine At.thenRet ?_ | refine At.blockRet ?_)
    -- ret 0
    exact At.retN (⟨.zero, by rw [pCur, Fo.get_none hk]; rfl⟩) rfl (by rfl) ag_37 (by repeat (first | exact Has.here | apply Has.there)) (vs := [_, _, _, _, _, _, _, _, _, _]) (by rfl) (by rfl) (by rfl) (fun w h => RSt.zero_rows h.drop)
  · skip
    refine Wc.region ?_
    refine Wl.val (Runs.move (by rfl)) rfl ?_
    refine Wl.val (Runs.move (by rfl)) rfl ?_
    refine Wl.call en_64 (by rfl) (of_some hi.there hk en_65 (fun s => s.cu) (fun L h => cu1_spec h hk) (fun L h hw => (h.rd hk hw).2.2) ((hl.small hn hk).2.2)) rfl (fun q => ?_)
    try dsimp only
    refine Wl.mem (L' := own encR q.1.da :: own encI q.1.fr :: own encR q.1.re :: own encI q.1.ol :: own encC q.1.pl :: cel b4 37 [.bool false, .int .i64 0, .slice none 0 0, .slice none 0 0, .bool false, .bool false, .slice none 0 0, .bool false, .slice none 0 0, .slice none 0 0] :: L) (fun _ h => Pick.sat (by refine Pick.cons (by repeat (first | exact Rem.here | apply Rem.there)) ?_; refine Pick.cons (by repeat (first | exact Rem.here | apply Rem.there)) ?_; refine Pick.cons (by repeat (first | exact Rem.here | apply Rem.there)) ?_; refine Pick.cons (by repeat (first | exact Rem.here | apply Rem.there)) ?_; refine Pick.cons (by repeat (first | exact Rem.here | apply Rem.there)) ?_; refine Pick.cons (by repeat (first | exact Rem.here | apply Rem.there)) ?_; repeat (first | exact Pick.refl | refine Pick.drop ?_)) h) ?_
    refine Wl.act (Acts.store (vs := [.bool q.1.at_, .int .i64 q.1.bu, q.1.da.v, q.1.fr.v, .bool q.1.inp, .bool q.1.all, q.1.re.v, .bool q.1.ord, q.1.ol.v, q.1.pl.v]) (by rfl) (by rfl) sz_37 (by rfl) (by rfl) (by rfl) (by repeat (first | exact Has.here | apply Has.there)) (by exact Nat.le_of_ble_eq_true rfl) (by simp only [Srf.cells, RSt.cells, List.cons_append, List.nil_append, wrs, List.set_cons_zero, List.set_cons_succ, Nat.reduceAdd, Nat.zero_add, Nat.add_zero]; rfl) (by repeat (first | exact UpdL.cel | apply UpdL.there))) ?_
    refine Wl.nil ?_
    refine At.env [(4, _)] ⟨by rfl, trivial⟩ ?_
    refine At.then_ ?_
    refine Wc.ret ?_
    repeat (first | refine At.thenRet ?_ | refine At.blockRet ?_)
    -- ret 0
    exact At.retN (⟨q.1, by rw [q.2, pCur, Fo.get_some hk]; rfl⟩) rfl (by rfl) ag_37 (by repeat (first | exact Has.here | apply Has.there)) (vs := [_, _, _, _, _, _, _, _, _, _]) (by rfl) (by rfl) (by rfl) (fun w h => (fun _ h => Pick.sat (by refine Pick.cons (by repeat (first | exact Rem.here | apply Rem.there)) ?_; refine Pick.cons (by repeat (first | exact Rem.here | apply Rem.there)) ?_; refine Pick.cons (by repeat (first | exact Rem.here | apply Rem.there)) ?_; refine Pick.cons (by repeat (first | exact Rem.here | apply Rem.there)) ?_; refine Pick.cons (by repeat (first | exact Rem.here | apply Rem.there)) ?_; repeat (first | exact Pick.refl | refine Pick.drop ?_)) h) w h)

theorem ca_spec {L : List HP} {F : Fo} (hi : Inc L F.hp) {id : Int} {n : Nat} (hl : Lim n F.abs) (hn : n ≤ 1000000) : ∀ w, Sat w (L) → Calls Tryd.prog 17 #[.pointer (some ⟨F.f, 0, none⟩), .int .i64 id] w (Ret (α := { r : RSt // r.abs = pCa F.abs id }) (fun r => .agg r.1.cells.toArray) (fun r => r.1.rows ++ L)) := by
  refine Spec.enter (n := 8) (vs := [.pointer (some ⟨F.f, 0, none⟩), .int .i64 id]) Tryd.func17 rfl rfl rfl ?_
  dsimp only [enum, Nat.reduceAdd]
  refine Wc.seq ?_
  -- R0
  refine Wc.region ?_
  refine Wl.valX (RunsX.alloc (cs := [.bool false, .int .i64 0, .slice none 0 0, .slice none 0 0, .bool false, .bool false, .slice none 0 0, .bool false, .slice none 0 0, .slice none 0 0]) zr_37 rfl) rfl (fun b4 => ?_)
  try dsimp only
  refine Wl.nil ?_
  refine At.env [(0, _), (1, _), (4, _)] ⟨by rfl, by rfl, by rfl, trivial⟩ ?_
  refine At.then_ ?_
  refine Wc.seq ?_
  -- R1
  rcases hk : look F.L id with _ | s
  · skip
    refine Wc.region ?_
    refine Wl.val (Runs.move (by rfl)) rfl ?_
    refine Wl.val (Runs.move (by rfl)) rfl ?_
    refine Wl.call en_64 (by rfl) (of_none hi.there hk) rfl (fun x7 => ?_)
    try dsimp only
    refine Wl.act (Acts.store (vs := [.bool false, .int .i64 0, .slice none 0 0, .slice none 0 0, .bool false, .bool false, .slice none 0 0, .bool false, .slice none 0 0, .slice none 0 0]) (by rfl) (by rfl) sz_37 (by rfl) (by rfl) (by rfl) (by repeat (first | exact Has.here | apply Has.there)) (by exact Nat.le_of_ble_eq_true rfl) (by simp only [Srf.cells, RSt.cells, List.cons_append, List.nil_append, wrs, List.set_cons_zero, List.set_cons_succ, Nat.reduceAdd, Nat.zero_add, Nat.add_zero]; rfl) (by repeat (first | exact UpdL.cel | apply UpdL.there))) ?_
    refine Wl.nil ?_
    refine At.env [(4, _)] ⟨by rfl, trivial⟩ ?_
    refine At.then_ ?_
    refine Wc.ret ?_
    repeat (first | refine At.thenRet ?_ | refine At.blockRet ?_)
    -- ret 0
    exact At.retN (⟨.zero, by rw [pCa, Fo.get_none hk]; rfl⟩) rfl (by rfl) ag_37 (by repeat (first | exact Has.here | apply Has.there)) (vs := [_, _, _, _, _, _, _, _, _, _]) (by rfl) (by rfl) (by rfl) (fun w h => RSt.zero_rows h.drop)
  · skip
    refine Wc.region ?_
    refine Wl.val (Runs.move (by rfl)) rfl ?_
    refine Wl.val (Runs.move (by rfl)) rfl ?_
    refine Wl.call en_64 (by rfl) (of_some hi.there hk en_66 (fun s => s.ca) (fun L h => ca1_spec h hk) (fun L h hw => (h.rd hk hw).2.1) ((hl.small hn hk).2.1)) rfl (fun q => ?_)
    try dsimp only
    refine Wl.mem (L' := own encR q.1.da :: own encI q.1.fr :: own encR q.1.re :: own encI q.1.ol :: own encC q.1.pl :: cel b4 37 [.bool false, .int .i64 0, .slice none 0 0, .slice none 0 0, .bool false, .bool false, .slice none 0 0, .bool false, .slice none 0 0, .slice none 0 0] :: L) (fun _ h => Pick.sat (by refine Pick.cons (by repeat (first | exact Rem.here | apply Rem.there)) ?_; refine Pick.cons (by repeat (first | exact Rem.here | apply Rem.there)) ?_; refine Pick.cons (by repeat (first | exact Rem.here | apply Rem.there)) ?_; refine Pick.cons (by repeat (first | exact Rem.here | apply Rem.there)) ?_; refine Pick.cons (by repeat (first | exact Rem.here | apply Rem.there)) ?_; refine Pick.cons (by repeat (first | exact Rem.here | apply Rem.there)) ?_; repeat (first | exact Pick.refl | refine Pick.drop ?_)) h) ?_
    refine Wl.act (Acts.store (vs := [.bool q.1.at_, .int .i64 q.1.bu, q.1.da.v, q.1.fr.v, .bool q.1.inp, .bool q.1.all, q.1.re.v, .bool q.1.ord, q.1.ol.v, q.1.pl.v]) (by rfl) (by rfl) sz_37 (by rfl) (by rfl) (by rfl) (by repeat (first | exact Has.here | apply Has.there)) (by exact Nat.le_of_ble_eq_true rfl) (by simp only [Srf.cells, RSt.cells, List.cons_append, List.nil_append, wrs, List.set_cons_zero, List.set_cons_succ, Nat.reduceAdd, Nat.zero_add, Nat.add_zero]; rfl) (by repeat (first | exact UpdL.cel | apply UpdL.there))) ?_
    refine Wl.nil ?_
    refine At.env [(4, _)] ⟨by rfl, trivial⟩ ?_
    refine At.then_ ?_
    refine Wc.ret ?_
    repeat (first | refine At.thenRet ?_ | refine At.blockRet ?_)
    -- ret 0
    exact At.retN (⟨q.1, by rw [q.2, pCa, Fo.get_some hk]; rfl⟩) rfl (by rfl) ag_37 (by repeat (first | exact Has.here | apply Has.there)) (vs := [_, _, _, _, _, _, _, _, _, _]) (by rfl) (by rfl) (by rfl) (fun w h => (fun _ h => Pick.sat (by refine Pick.cons (by repeat (first | exact Rem.here | apply Rem.there)) ?_; refine Pick.cons (by repeat (first | exact Rem.here | apply Rem.there)) ?_; refine Pick.cons (by repeat (first | exact Rem.here | apply Rem.there)) ?_; refine Pick.cons (by repeat (first | exact Rem.here | apply Rem.there)) ?_; refine Pick.cons (by repeat (first | exact Rem.here | apply Rem.there)) ?_; repeat (first | exact Pick.refl | refine Pick.drop ?_)) h) w h)
end Go.Proofs.Sl

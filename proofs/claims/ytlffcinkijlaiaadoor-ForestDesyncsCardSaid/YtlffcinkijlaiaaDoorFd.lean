/- Printed by a program of this session out of the translation (wip/tools/gen.py): walks. -/
import Derived.Test.YtlffcinkijlaiaaDoorFb
import Derived.Test.YtlffcinkijlaiaaDoorFc
import Derived.Test.YtlffcinkijlaiaaDoorProg
import Derived.KernelRfl
namespace Go.Proofs.Sl
open Go
set_option linter.unusedVariables false
set_option linter.unusedSimpArgs false
set_option maxRecDepth 20000
theorem en_88 : Enters Tryd.prog 88 := fun _ _ => by kernel_rfl
theorem fa_73_0 : ∀ b o w, (Instr.fieldAt 73 (.pointer (some ⟨b, o, none⟩)) 0).run Tryd.prog w = .ok (.pointer (some ⟨b, o + 0, none⟩)) w := fun _ _ _ => by kernel_rfl
theorem ag_73 : Agg Tryd.prog 73 3 := ⟨fun _ => by kernel_rfl, sz_73⟩
theorem zr_73 : ∀ w, (zeroValue 73).run Tryd.prog w = .ok (.agg #[.int .i64 0, .int .i64 0, .int .i64 0]) w := fun _ => by kernel_rfl
theorem en_56 : Enters Tryd.prog 56 := fun _ _ => by kernel_rfl

theorem put_spec {L : List HP} {s : Sli Ch} {c : Ch} (hr : Rds L encC s) (hb : s.xs.length ≤ 1000000000) : ∀ w, Sat w (L) → Calls Tryd.prog 56 #[s.v, .agg #[.int .i64 c.id, .int .i64 c.x, .int .i64 c.y]] w (Ret (α := { q : Sli Ch // q.xs = put s.xs c }) (fun q => q.1.v) (fun q => own encC q.1 :: L)) := by
  refine Spec.enter (n := 32) (vs := [s.v, .agg #[.int .i64 c.id, .int .i64 c.x, .int .i64 c.y]]) Tryd.func56 rfl rfl rfl ?_
  dsimp only [enum, Nat.reduceAdd]
  refine Wc.seq ?_
  -- R0
  refine Wc.region ?_
  refine Wl.valX (RunsX.box (cs := [.int .i64 c.id, .int .i64 c.x, .int .i64 c.y]) (by rfl) (by rfl)) rfl (fun b3 => ?_)
  try dsimp only
  refine Wl.val (Runs.assign (by rfl)) rfl ?_
  refine Wl.nil ?_
  refine At.env [(0, _), (3, _)] ⟨by rfl, by rfl, trivial⟩ ?_
  refine At.then_ ?_
  refine Wc.seq ?_
  -- R1
  refine Wc.region ?_
  refine Wl.val (Runs.move (by rfl)) rfl ?_
  refine Wl.valX (RunsX.buildSlice (U := 35) (cs := ([s].map Sli.v)) (by rfl) (fun _ => by kernel_rfl)) rfl (fun b7 => ?_)
  try dsimp only
  refine Wl.call en_88 (by rfl) (all_C (row := ⟨some ⟨b7, 0, none⟩, 1, [s]⟩) rds_row (by simp only [List.mem_singleton, forall_eq]; exact hr.there.there) (by simp only [tot, List.map_cons, List.map_nil, List.sum_cons, List.sum_nil]; omega) (by simp)) rfl (fun q => ?_)
  try dsimp only
  have hq : q.1.xs = s.xs := by rw [q.2]; simp [cat]
  refine Wl.val (Runs.assign (by rfl)) rfl ?_
  refine Wl.nil ?_
  refine At.env [(0, _), (3, _)] ⟨by rfl, by rfl, trivial⟩ ?_
  refine At.then_ ?_
  refine Wc.seq ?_
  refine Wc.seq ?_
  -- R2
  refine Wc.know (fun w hw => Rds.own w hw) (fun hrq => ?_)
  refine Wc.region ?_
  refine Wl.val (Runs.move (by rfl)) rfl ?_
  refine Wl.val (Runs.lenSlice us_35 rfl (p := q.1.a) (l := q.1.xs.length) (c := q.1.cap) (by rfl)) rfl ?_
  refine Wl.val (Runs.move (by rfl)) rfl ?_
  refine Wl.nil ?_
  refine At.env [(0, _), (3, _), (10, _), (11, _)] ⟨by rfl, by rfl, by rfl, by rfl, trivial⟩ ?_
  refine At.then_ ?_
  refine Wc.block ?_
  refine Wc.loop (α := Nat) (fun i => [(0, q.1.v), (3, .pointer (some ⟨b3, 0, none⟩)), (10, .int .i64 ((q.1.xs.length : Nat) : Int)), (11, .int .i64 (i : Int))]) (fun i => own encC q.1 :: cel b7 35 ([s].map Sli.v) :: cel b3 73 [.int .i64 c.id, .int .i64 c.x, .int .i64 c.y] :: L) (fun i => i ≤ q.1.xs.length ∧ put q.1.xs c = q.1.xs.take i ++ put (q.1.xs.drop i) c) (fun i => q.1.xs.length - i) 0 ?_ ⟨(by rfl), (by rfl), (by rfl), (by rfl), trivial⟩ ?_ ?_
  · skip
    exact ⟨Nat.zero_le _, by simp⟩
  · skip
    exact fun _ h => h
  · skip
    rintro i ⟨hI, hp⟩
    have hql : q.1.xs.length = s.xs.length := by rw [hq]
    try dsimp only
    refine Wc.seq ?_
    -- R3
    refine Wc.region ?_
    refine Wl.val (Runs.lt (by rfl) (by rfl)) rfl ?_
    refine Wl.nil ?_
    refine At.env [(0, _), (3, _), (10, _), (11, _), (12, _)] ⟨by rfl, by rfl, by rfl, by rfl, by rfl, trivial⟩ ?_
    refine At.then_ ?_
    refine Wc.seq ?_
    -- if 0
    first | refine Wc.ifd (by rfl) (fun h1 => ?_) (fun h1 => ?_) | refine Wc.ifb (by rfl) (fun h1 => ?_) (fun h1 => ?_)
    · skip
      refine Wc.skip ?_
      refine At.then_ ?_
      refine Wc.seq ?_
      refine Wc.block ?_
      refine Wc.seq ?_
      -- R4
      refine Wc.region ?_
      refine Wl.val (Runs.move (by rfl)) rfl ?_
      refine Wl.val (Runs.assign (by rfl)) rfl ?_
      refine Wl.nil ?_
      refine At.env [(0, _), (3, _), (5, _), (10, _), (11, _)] ⟨by rfl, by rfl, by rfl, by rfl, by rfl, trivial⟩ ?_
      refine At.then_ ?_
      refine Wc.seq ?_
      -- R5
      have hi1 : i < q.1.xs.length := by omega
      obtain ⟨b, off, ha⟩ := hrq.at hi1
      refine Wd.begin0 (fun _ => true) mixed ?_
      dsimp only [List.length_cons, List.length_nil, Nat.reduceAdd]
      refine Wd.takeP 0 rfl (by kernel_rfl) (by kernel_rfl) (by kernel_rfl) (fun _ _ _ _ h => h) (Runs.move (by rfl)) rfl ?_
      refine Wd.takeP 1 rfl (by kernel_rfl) (by kernel_rfl) (by kernel_rfl) (fun _ _ _ _ h => h) (Runs.move (by rfl)) rfl ?_
      refine Wd.takeP 2 rfl (by kernel_rfl) (by kernel_rfl) (by kernel_rfl) (fun _ _ _ _ h => h) (Runs.index us_35 sz_73 (b := b) (off := off) (i := i) (by rw [← ha]; rfl) (by rfl) rfl hi1) rfl ?_
      refine Wd.takeP 3 rfl (by kernel_rfl) (by kernel_rfl) (by kernel_rfl) (fun _ _ _ _ h => h) (Runs.field (by rfl) fa_73_0) rfl ?_
      refine Wd.takeR 4 rfl (by kernel_rfl) (by kernel_rfl) (by kernel_rfl) (fun _ _ _ _ h => h) (fun _ h => h) (Runs.loadR (e := encC) (s := q.1) (b := b) (off := off) (i := i) (j := 0) (v := .int .i64 (q.1.xs[i]).id) (by rfl) fl_3 hrq ha (List.getElem?_eq_getElem hi1) rfl) rfl ?_
      refine Wd.takeP 5 rfl (by kernel_rfl) (by kernel_rfl) (by kernel_rfl) (fun _ _ _ _ h => h) (Runs.field (by rfl) fa_73_0) rfl ?_
      refine Wd.takeR 6 rfl (by kernel_rfl) (by kernel_rfl) (by kernel_rfl) (fun _ _ _ _ h => h) (fun _ h => h) (Runs.load1 (by rfl) fl_3 (by repeat (first | exact Has.here | apply Has.there)) (by rfl)) rfl ?_
      refine Wd.takeP 7 rfl (by kernel_rfl) (by kernel_rfl) (by kernel_rfl) (fun _ _ _ _ h => h) (Runs.eq (by rfl) (by rfl)) rfl ?_
      refine Wd.done (by kernel_rfl) ?_
      refine At.env [(0, _), (3, _), (5, _), (10, _), (11, _), (21, _)] ⟨by rfl, by rfl, by rfl, by rfl, by rfl, by rfl, trivial⟩ ?_
      refine At.then_ ?_
      -- if 1
      first | refine Wc.ifd (by rfl) (fun h2 => ?_) (fun h2 => ?_) | refine Wc.ifb (by rfl) (fun h2 => ?_) (fun h2 => ?_)
      · skip
        refine Wc.seq ?_
        -- R6
        refine Wc.region ?_
        refine Wl.val (Runs.move (by rfl)) rfl ?_
        refine Wl.val (Runs.move (by rfl)) rfl ?_
        refine Wl.val (Runs.loadN (vs := [_, _, _]) (by rfl) ag_73 (by repeat (first | exact Has.here | apply Has.there)) (by rfl) (by rfl)) rfl ?_
        refine Wl.val (Runs.index us_35 sz_73 (b := b) (off := off) (i := i) (by rw [← ha]; rfl) (by rfl) rfl hi1) rfl ?_
        refine Wl.act (Acts.storeE (e := encC) (s := q.1) (b := b) (off := off) (i := i) (z := c) (by rfl) (by rfl) rfl sz_73 ha hi1 .here) ?_
        refine Wl.nil ?_
        refine At.env [(0, _)] ⟨by rfl, trivial⟩ ?_
        refine At.then_ ?_
        refine Wc.seq ?_
        -- R7
        refine Wc.region ?_
        refine Wl.val (Runs.move (by rfl)) rfl ?_
        refine Wl.val (Runs.assign (by rfl)) rfl ?_
        refine Wl.nil ?_
        refine At.env [(4, _)] ⟨by rfl, trivial⟩ ?_
        refine At.then_ ?_
        refine Wc.ret ?_
        repeat (first | refine At.thenRet ?_ | refine At.blockRet ?_)
        -- ret 0
        exact At.ret1 (⟨{ q.1 with xs := q.1.xs.set i c }, by show q.1.xs.set i c = _; rw [← hq, ← put_found hp hi1 h2]⟩) rfl (by simp only [Sli.v, List.length_set]; rfl) (fun _ h => h.swap.drop.swap.drop)
      · skip
        refine Wc.skip ?_
        refine At.blockNormal ?_
        refine At.then_ ?_
        -- R8
        refine Wc.region ?_
        refine Wl.val (Runs.add (by rfl) (by rfl) (by omega)) rfl ?_
        refine Wl.val (Runs.move (by rfl)) rfl ?_
        refine Wl.nil ?_
        refine At.env [(0, _), (3, _), (10, _), (11, _)] ⟨by rfl, by rfl, by rfl, by rfl, trivial⟩ ?_
        exact At.again (i + 1) ⟨by omega, put_step hp hi1 h2⟩ (by omega) ⟨by rfl, by rfl, by rfl, by rfl, trivial⟩ (fun _ h => h)
    · skip
      refine Wc.exit ?_
      repeat (first | refine At.thenExit ?_ | refine At.blockOther rfl ?_)
      refine At.blockOut ?_
      refine At.then_ ?_
      refine Wc.seq ?_
      -- R9
      refine Wc.region ?_
      refine Wl.val (Runs.move (by rfl)) rfl ?_
      refine Wl.val (Runs.loadN (vs := [_, _, _]) (by rfl) ag_73 (by repeat (first | exact Has.here | apply Has.there)) (by rfl) (by rfl)) rfl ?_
      refine Wl.valX (RunsX.buildSlice (U := 73) (cs := [.int .i64 c.id, .int .i64 c.x, .int .i64 c.y]) (by rfl) (fun _ => by kernel_rfl)) rfl (fun b30 => ?_)
      try dsimp only
      refine Wl.valX (RunsX.append el_C rfl rfl (s := q.1) (r := ⟨some ⟨b30, 0, none⟩, 1, [c]⟩) (by rfl) (by rfl) (.there .here) (.inr ⟨b30, 0, rfl, fun w hw j v hv => cell_at hw.get (by simpa [Enc.flat, encC] using hv)⟩) (by rw [hq]; simp only [List.length_singleton]; omega)) rfl (fun r => ?_)
      try dsimp only
      refine Wl.val (Runs.assign (by rfl)) rfl ?_
      refine Wl.nil ?_
      refine At.env [(4, _)] ⟨by rfl, trivial⟩ ?_
      refine At.then_ ?_
      refine Wc.ret ?_
      repeat (first | refine At.thenRet ?_ | refine At.blockRet ?_)
      -- ret 1
      exact At.ret1 (⟨r.1, by rw [r.2, ← hq, put_end hp (by omega)]⟩) rfl (by rfl) (fun _ h => h.swap.drop.swap.drop.swap.drop)

theorem places_spec {L : List HP} {s r : Sli Ch} (hr : Rds L encC s) (hr2 : Rds L encC r) (hb : s.xs.length + r.xs.length ≤ 1000000000) : ∀ w, Sat w (L) → Calls Tryd.prog 91 #[s.v, r.v] w (Ret (α := { q : Sli Ch // q.xs = puts s.xs r.xs }) (fun q => q.1.v) (fun q => own encC q.1 :: L)) := by
  refine Spec.enter (n := 22) (vs := [s.v, r.v]) Tryd.func91 rfl rfl rfl ?_
  dsimp only [enum, Nat.reduceAdd]
  refine Wc.seq ?_
  -- R0
  refine Wc.region ?_
  refine Wl.val (Runs.assign (by rfl)) rfl ?_
  refine Wl.nil ?_
  refine At.env [(0, _), (1, _)] ⟨by rfl, by rfl, trivial⟩ ?_
  refine At.then_ ?_
  refine Wc.seq ?_
  -- R1
  refine Wc.region ?_
  refine Wl.val (Runs.move (by rfl)) rfl ?_
  refine Wl.valX (RunsX.buildSlice (U := 35) (cs := ([s].map Sli.v)) (by rfl) (fun _ => by kernel_rfl)) rfl (fun b9 => ?_)
  try dsimp only
  refine Wl.call en_88 (by rfl) (all_C (row := ⟨some ⟨b9, 0, none⟩, 1, [s]⟩) rds_row (by simp only [List.mem_singleton, forall_eq]; exact hr.there) (by simp only [tot, List.map_cons, List.map_nil, List.sum_cons, List.sum_nil]; omega) (by simp)) rfl (fun q => ?_)
  try dsimp only
  have hq : q.1.xs = s.xs := by rw [q.2]; simp [cat]
  refine Wl.val (Runs.assign (by rfl)) rfl ?_
  refine Wl.nil ?_
  refine At.env [(1, _), (5, _)] ⟨by rfl, by rfl, trivial⟩ ?_
  refine At.then_ ?_
  refine Wc.seq ?_
  refine Wc.seq ?_
  -- R2
  refine Wc.region ?_
  refine Wl.val (Runs.move (by rfl)) rfl ?_
  refine Wl.val (Runs.lenSlice us_35 rfl (p := r.a) (l := r.xs.length) (c := r.cap) (by rfl)) rfl ?_
  refine Wl.val (Runs.move (by rfl)) rfl ?_
  refine Wl.nil ?_
  refine At.env [(5, _), (11, _), (12, _), (13, _)] ⟨by rfl, by rfl, by rfl, by rfl, trivial⟩ ?_
  refine At.then_ ?_
  refine Wc.block ?_
  refine Wc.loop (α := Nat × Sli Ch) (fun y => [(5, y.2.v), (11, r.v), (12, .int .i64 ((r.xs.length : Nat) : Int)), (13, .int .i64 (y.1 : Int))]) (fun y => own encC y.2 :: L) (fun y => y.1 ≤ r.xs.length ∧ y.2.xs = puts s.xs (r.xs.take y.1)) (fun y => r.xs.length - y.1) (0, q.1) ?_ ⟨(by rfl), (by rfl), (by rfl), (by rfl), trivial⟩ ?_ ?_
  · skip
    exact ⟨Nat.zero_le _, by simp [puts, hq]⟩
  · skip
    exact fun _ h => h.swap.drop
  · skip
    rintro ⟨i, z⟩ ⟨hI, hz⟩
    dsimp only at hI hz
    try dsimp only
    refine Wc.seq ?_
    -- R3
    refine Wc.region ?_
    refine Wl.val (Runs.lt (by rfl) (by rfl)) rfl ?_
    refine Wl.nil ?_
    refine At.env [(5, _), (11, _), (12, _), (13, _), (14, _)] ⟨by rfl, by rfl, by rfl, by rfl, by rfl, trivial⟩ ?_
    refine At.then_ ?_
    refine Wc.seq ?_
    -- if 0
    first | refine Wc.ifd (by rfl) (fun h1 => ?_) (fun h1 => ?_) | refine Wc.ifb (by rfl) (fun h1 => ?_) (fun h1 => ?_)
    · skip
      refine Wc.skip ?_
      refine At.then_ ?_
      refine Wc.seq ?_
      refine Wc.block ?_
      refine Wc.seq ?_
      -- R4
      have hi1 : i < r.xs.length := by omega
      obtain ⟨b, off, ha⟩ := hr2.at hi1
      refine Wc.region ?_
      refine Wl.val (Runs.index us_35 sz_73 (b := b) (off := off) (i := i) (by rw [← ha]; rfl) (by rfl) rfl hi1) rfl ?_
      refine Wl.val (Runs.loadRN (e := encC) (s := r) (b := b) (off := off) (i := i) (z := r.xs[i]) (by rfl) ag_73 hr2.there ha (List.getElem?_eq_getElem hi1)) rfl ?_
      refine Wl.valX (RunsX.alloc (cs := [.int .i64 0, .int .i64 0, .int .i64 0]) zr_73 rfl) rfl (fun b7 => ?_)
      try dsimp only
      refine Wl.act (Acts.store (vs := (encC.f r.xs[i])) (by rfl) (by rfl) sz_73 (by rfl) (by rfl) (by rfl) (by repeat (first | exact Has.here | apply Has.there)) (by exact Nat.le_of_ble_eq_true rfl) (by rfl) (by repeat (first | exact UpdL.cel | apply UpdL.there))) ?_
      refine Wl.nil ?_
      refine At.env [(5, _), (7, _), (11, _), (12, _), (13, _)] ⟨by rfl, by rfl, by rfl, by rfl, by rfl, trivial⟩ ?_
      refine At.then_ ?_
      -- R5
      refine Wc.mem (fun _ h => h.swap) ?_
      refine Wc.know (fun w hw => Rds.own w hw) (fun hrz => ?_)
      refine Wc.mem (fun _ h => h.swap) ?_
      refine Wc.region ?_
      refine Wl.val (Runs.move (by rfl)) rfl ?_
      refine Wl.val (Runs.loadN (vs := [_, _, _]) (by rfl) ag_73 (by repeat (first | exact Has.here | apply Has.there)) (by rfl) (by rfl)) rfl ?_
      refine Wl.call en_56 (by rfl) (put_spec (s := z) (c := r.xs[i]) (hrz.weak (fun _ h => h.swap)) (by rw [hz]; have := puts_length s.xs (r.xs.take i); simp only [List.length_take] at this; omega)) rfl (fun z2 => ?_)
      try dsimp only
      refine Wl.val (Runs.assign (by rfl)) rfl ?_
      refine Wl.nil ?_
      refine At.env [(5, _), (11, _), (12, _), (13, _)] ⟨by rfl, by rfl, by rfl, by rfl, trivial⟩ ?_
      refine At.blockNormal ?_
      refine At.then_ ?_
      -- R6
      refine Wc.region ?_
      refine Wl.val (Runs.add (by rfl) (by rfl) (by omega)) rfl ?_
      refine Wl.val (Runs.move (by rfl)) rfl ?_
      refine Wl.nil ?_
      refine At.env [(5, _), (11, _), (12, _), (13, _)] ⟨by rfl, by rfl, by rfl, by rfl, trivial⟩ ?_
      exact At.again (x := (i, z)) (i + 1, z2.1) ⟨by show i + 1 ≤ _; omega, by show z2.1.xs = puts s.xs (r.xs.take (i + 1)); rw [z2.2, hz, puts_take _ _ _ hi1]⟩ (by show r.xs.length - (i + 1) < r.xs.length - i; omega) ⟨by rfl, by rfl, by rfl, by rfl, trivial⟩ (fun _ h => h.swap.drop.swap.drop)
    · skip
      refine Wc.exit ?_
      repeat (first | refine At.thenExit ?_ | refine At.blockOther rfl ?_)
      refine At.blockOut ?_
      refine At.then_ ?_
      refine Wc.seq ?_
      -- R7
      refine Wc.region ?_
      refine Wl.val (Runs.move (by rfl)) rfl ?_
      refine Wl.val (Runs.assign (by rfl)) rfl ?_
      refine Wl.nil ?_
      refine At.env [(4, _)] ⟨by rfl, trivial⟩ ?_
      refine At.then_ ?_
      refine Wc.ret ?_
      repeat (first | refine At.thenRet ?_ | refine At.blockRet ?_)
      -- ret 0
      exact At.ret1 (⟨z, by rw [hz, show i = r.xs.length by omega, List.take_length]⟩) rfl (by rfl) (fun _ h => h)
end Go.Proofs.Sl

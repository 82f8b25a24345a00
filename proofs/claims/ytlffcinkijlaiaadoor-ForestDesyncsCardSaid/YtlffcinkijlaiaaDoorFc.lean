/- Printed by a program of this session out of the translation (wip/tools/gen.py): walks. -/
import Derived.Test.YtlffcinkijlaiaaDoorFa
import Derived.Test.YtlffcinkijlaiaaDoorSlDraw
import Derived.Test.YtlffcinkijlaiaaDoorProg
import Derived.KernelRfl
namespace Go.Proofs.Sl
open Go
set_option linter.unusedVariables false
set_option linter.unusedSimpArgs false
set_option maxRecDepth 20000
theorem ik : ∀ w, (underlying 3).run Tryd.prog w = .ok (.int .i64) w := fun _ => by kernel_rfl
theorem el_I : ElT Tryd.prog 29 encI 8 := ⟨fun _ => by kernel_rfl, fun _ => by kernel_rfl, ⟨(Tryd.prog.info? 3).getD default, by kernel_rfl, fun _ => by kernel_rfl⟩, ⟨.int .i64 0, rfl, fun _ => by kernel_rfl⟩, by decide⟩
theorem us_29 : ∀ w, (underlying 29).run Tryd.prog w = .ok (.slice 3) w := fun _ => by kernel_rfl
theorem sz_3 : ∀ w, (sizeOf 3).run Tryd.prog w = .ok 1 w := fun _ => by kernel_rfl
theorem us_152 : ∀ w, (underlying 152).run Tryd.prog w = .ok (.slice 29) w := fun _ => by kernel_rfl
theorem sz_29 : ∀ w, (sizeOf 29).run Tryd.prog w = .ok 1 w := fun _ => by kernel_rfl
theorem fl_29 : Flat Tryd.prog 29 := fun _ => by kernel_rfl
theorem en_128 : Enters Tryd.prog 128 := fun _ _ => by kernel_rfl
theorem en_109 : Enters Tryd.prog 109 := fun _ _ => by kernel_rfl
theorem el_R : ElT Tryd.prog 34 encR 32 := ⟨fun _ => by kernel_rfl, fun _ => by kernel_rfl, ⟨(Tryd.prog.info? 133).getD default, by kernel_rfl, fun _ => by kernel_rfl⟩, ⟨.agg #[.int .i64 0, .int .i64 0, .int .i64 0, .int .i64 0], rfl, fun _ => by kernel_rfl⟩, by decide⟩
theorem us_34 : ∀ w, (underlying 34).run Tryd.prog w = .ok (.slice 133) w := fun _ => by kernel_rfl
theorem sz_133 : ∀ w, (sizeOf 133).run Tryd.prog w = .ok 4 w := fun _ => by kernel_rfl
theorem us_151 : ∀ w, (underlying 151).run Tryd.prog w = .ok (.slice 34) w := fun _ => by kernel_rfl
theorem sz_34 : ∀ w, (sizeOf 34).run Tryd.prog w = .ok 1 w := fun _ => by kernel_rfl
theorem fl_34 : Flat Tryd.prog 34 := fun _ => by kernel_rfl
theorem en_127 : Enters Tryd.prog 127 := fun _ _ => by kernel_rfl
theorem en_108 : Enters Tryd.prog 108 := fun _ _ => by kernel_rfl
theorem el_C : ElT Tryd.prog 35 encC 24 := ⟨fun _ => by kernel_rfl, fun _ => by kernel_rfl, ⟨(Tryd.prog.info? 73).getD default, by kernel_rfl, fun _ => by kernel_rfl⟩, ⟨.agg #[.int .i64 0, .int .i64 0, .int .i64 0], rfl, fun _ => by kernel_rfl⟩, by decide⟩
theorem us_35 : ∀ w, (underlying 35).run Tryd.prog w = .ok (.slice 73) w := fun _ => by kernel_rfl
theorem sz_73 : ∀ w, (sizeOf 73).run Tryd.prog w = .ok 3 w := fun _ => by kernel_rfl
theorem us_150 : ∀ w, (underlying 150).run Tryd.prog w = .ok (.slice 35) w := fun _ => by kernel_rfl
theorem sz_35 : ∀ w, (sizeOf 35).run Tryd.prog w = .ok 1 w := fun _ => by kernel_rfl
theorem fl_35 : Flat Tryd.prog 35 := fun _ => by kernel_rfl
theorem en_126 : Enters Tryd.prog 126 := fun _ _ => by kernel_rfl
theorem en_107 : Enters Tryd.prog 107 := fun _ _ => by kernel_rfl

theorem grow_I {L : List HP} {m : Int} (h0 : 0 ≤ m) (hb : m ≤ 1099511627776) : ∀ w, Sat w (L) → Calls Tryd.prog 128 #[.slice none 0 0, .int .i64 m] w (Ret (α := { q : Option Addr × Nat // m ≤ (q.2 : Int) }) (fun q => .slice q.1.1 0 q.1.2) (fun q => own encI ⟨q.1.1, q.1.2, []⟩ :: L)) := by
  refine Spec.enter (n := 27) (vs := [.slice none 0 0, .int .i64 m]) Tryd.func128 rfl rfl rfl ?_
  dsimp only [enum, Nat.reduceAdd]
  refine Wc.seq ?_
  -- R0
  refine Wc.region ?_
  refine Wl.val (Runs.assign (by rfl)) rfl ?_
  refine Wl.nil ?_
  refine At.env [(0, _), (1, _)] ⟨by rfl, by rfl, trivial⟩ ?_
  refine At.then_ ?_
  refine Wc.seq ?_
  refine Wc.seq ?_
  -- R1
  refine Wc.region ?_
  refine Wl.val (Runs.move (by rfl)) rfl ?_
  refine Wl.val (Runs.lt (by rfl) (by rfl)) rfl ?_
  refine Wl.nil ?_
  refine At.env [(0, _), (1, _), (6, _)] ⟨by rfl, by rfl, by rfl, trivial⟩ ?_
  refine At.then_ ?_
  -- if 0
  refine Wc.ifdf (by rfl) (by omega) ?_
  refine Wc.skip ?_
  refine At.then_ ?_
  refine Wc.seq ?_
  refine Wc.seq ?_
  -- R3
  refine Wc.region ?_
  refine Wl.val (Runs.move (by rfl)) rfl ?_
  refine Wl.val (Runs.move (by rfl)) rfl ?_
  refine Wl.val (Runs.capSlice us_29 rfl (by rfl)) rfl ?_
  refine Wl.val (Runs.move (by rfl)) rfl ?_
  refine Wl.val (Runs.lenSlice us_29 rfl (by rfl)) rfl ?_
  refine Wl.val (Runs.sub (by rfl) (by rfl) (by omega)) rfl ?_
  refine Wl.val (Runs.sub (by rfl) (by rfl) (by omega)) rfl ?_
  refine Wl.val (Runs.assign (by rfl)) rfl ?_
  refine Wl.nil ?_
  refine At.env [(0, _), (1, _)] ⟨by rfl, by rfl, trivial⟩ ?_
  refine At.then_ ?_
  refine Wc.seq ?_
  -- R4
  refine Wc.region ?_
  refine Wl.val (Runs.move (by rfl)) rfl ?_
  refine Wl.val (Runs.gt (by rfl) (by rfl)) rfl ?_
  refine Wl.nil ?_
  refine At.env [(0, _), (1, _), (16, _)] ⟨by rfl, by rfl, by rfl, trivial⟩ ?_
  refine At.then_ ?_
  -- if 1
  first | refine Wc.ifd (by rfl) (fun h1 => ?_) (fun h1 => ?_) | refine Wc.ifb (by rfl) (fun h1 => ?_) (fun h1 => ?_)
  · skip
    -- R5
    refine Wc.region ?_
    refine Wl.val (Runs.move (by rfl)) rfl ?_
    refine Wl.val (Runs.move (by rfl)) rfl ?_
    refine Wl.val (Runs.capSlice us_29 rfl (by rfl)) rfl ?_
    refine Wl.val (Runs.sliceHi us_29 sz_3 (by rfl) (by rfl) (hi := 0) (by rfl) (by omega)) rfl ?_
    refine Wl.val (Runs.move (by rfl)) rfl ?_
    refine Wl.valX (RunsX.appendMake el_I ik (by rfl) (by rfl) h1 (by omega)) rfl (fun q => ?_)
    try dsimp only
    refine Wl.val (Runs.move (by rfl)) rfl ?_
    refine Wl.val (Runs.lenSlice us_29 rfl (by rfl)) rfl ?_
    refine Wl.val (Runs.sliceHi us_29 sz_3 (by rfl) (by rfl) (hi := 0) (by rfl) (by omega)) rfl ?_
    refine Wl.val (Runs.assign (by rfl)) rfl ?_
    refine Wl.nil ?_
    refine At.env [(0, _)] ⟨by rfl, trivial⟩ ?_
    refine At.then_ ?_
    refine Wc.seq ?_
    -- R6
    refine Wc.region ?_
    refine Wl.val (Runs.move (by rfl)) rfl ?_
    refine Wl.val (Runs.assign (by rfl)) rfl ?_
    refine Wl.nil ?_
    refine At.env [(4, _)] ⟨by rfl, trivial⟩ ?_
    refine At.then_ ?_
    refine Wc.ret ?_
    repeat (first | refine At.thenRet ?_ | refine At.blockRet ?_)
    -- ret 0
    exact At.ret1 (⟨q.1, by have := q.2; omega⟩) rfl (by rfl) (fun _ h => h)
  · skip
    refine Wc.skip ?_
    refine At.then_ ?_
    refine Wc.seq ?_
    -- R6
    refine Wc.region ?_
    refine Wl.val (Runs.move (by rfl)) rfl ?_
    refine Wl.val (Runs.assign (by rfl)) rfl ?_
    refine Wl.nil ?_
    refine At.env [(4, _)] ⟨by rfl, trivial⟩ ?_
    refine At.then_ ?_
    refine Wc.ret ?_
    repeat (first | refine At.thenRet ?_ | refine At.blockRet ?_)
    -- ret 1
    exact At.ret1 (⟨(none, 0), by simp; omega⟩) rfl (by rfl) (fun _ h => h.toOwnNil rfl rfl)

set_option maxHeartbeats 400000 in
theorem concat_I {L : List HP} {row : Sli (Sli Int)} (hr : Rds L (encS Int 29) row) (hrs : ∀ s ∈ row.xs, Rds L encI s) (hb : tot row.xs ≤ 1099511627776) (hl : row.xs.length ≤ 1099511627776) : ∀ w, Sat w (L) → Calls Tryd.prog 109 #[row.v] w (Ret (α := { q : Sli Int // q.xs = cat row.xs }) (fun q => q.1.v) (fun q => own encI q.1 :: L)) := by
  refine Spec.enter (n := 36) (vs := [row.v]) Tryd.func109 rfl rfl rfl ?_
  dsimp only [enum, Nat.reduceAdd]
  refine Wc.seq ?_
  -- R0
  refine Wc.region ?_
  refine Wl.val (Runs.assign (by rfl)) rfl ?_
  refine Wl.nil ?_
  refine At.env [(0, _)] ⟨by rfl, trivial⟩ ?_
  refine At.then_ ?_
  refine Wc.seq ?_
  -- R1
  refine Wc.region ?_
  refine Wl.val (Runs.assign (by rfl)) rfl ?_
  refine Wl.nil ?_
  refine At.env [(0, _), (3, _)] ⟨by rfl, by rfl, trivial⟩ ?_
  refine At.then_ ?_
  refine Wc.seq ?_
  refine Wc.seq ?_
  -- R2
  refine Wc.region ?_
  refine Wl.val (Runs.move (by rfl)) rfl ?_
  refine Wl.val (Runs.lenSlice us_152 rfl (by rfl)) rfl ?_
  refine Wl.val (Runs.move (by rfl)) rfl ?_
  refine Wl.nil ?_
  refine At.env [(0, _), (3, _), (9, _), (10, _), (11, _)] ⟨by rfl, by rfl, by rfl, by rfl, by rfl, trivial⟩ ?_
  refine At.then_ ?_
  refine Wc.block ?_
  refine Wc.loop (α := Nat) (fun i => [(0, row.v), (3, .int .i64 ((tot (row.xs.take i) : Nat) : Int)), (9, row.v), (10, .int .i64 ((row.xs.length : Nat) : Int)), (11, .int .i64 (i : Int))]) (fun i => L) (fun i => i ≤ row.xs.length) (fun i => row.xs.length - i) 0 ?_ ⟨(by rfl), (by rfl), (by rfl), (by rfl), (by rfl), trivial⟩ ?_ ?_
  · skip
    exact Nat.zero_le _
  · skip
    exact fun _ h => h
  · skip
    intro i hI
    have htl := tot_le row.xs i
    try dsimp only
    refine Wc.seq ?_
    -- R3
    refine Wc.region ?_
    refine Wl.val (Runs.lt (by rfl) (by rfl)) rfl ?_
    refine Wl.nil ?_
    refine At.env [(0, _), (3, _), (9, _), (10, _), (11, _), (12, _)] ⟨by rfl, by rfl, by rfl, by rfl, by rfl, by rfl, trivial⟩ ?_
    refine At.then_ ?_
    refine Wc.seq ?_
    -- if 0
    first | refine Wc.ifd (by rfl) (fun h1 => ?_) (fun h1 => ?_) | refine Wc.ifb (by rfl) (fun h1 => ?_) (fun h1 => ?_)
    · skip
      refine Wc.skip ?_
      refine At.then_ ?_
      refine Wc.seq ?_
      refine Wc.block ?_
      refine Wc.seq ?_
      -- R4
      refine Wc.region ?_
      have hi1 : i < row.xs.length := by omega
      obtain ⟨b, off, ha⟩ := hr.at hi1
      refine Wl.val (Runs.index us_152 sz_29 (b := b) (off := off) (i := i) (by rw [← ha]; rfl) (by rfl) rfl hi1) rfl ?_
      refine Wl.val (Runs.loadR (e := encS Int 29) (s := row) (b := b) (off := off) (i := i) (j := 0) (v := (row.xs[i]).v) (by rfl) fl_29 hr ha (List.getElem?_eq_getElem hi1) rfl) rfl ?_
      refine Wl.val (Runs.assign (by rfl)) rfl ?_
      refine Wl.nil ?_
      refine At.env [(0, _), (3, _), (5, _), (9, _), (10, _), (11, _)] ⟨by rfl, by rfl, by rfl, by rfl, by rfl, by rfl, trivial⟩ ?_
      refine At.then_ ?_
      refine Wc.seq ?_
      -- R5
      refine Wc.region ?_
      refine Wl.val (Runs.move (by rfl)) rfl ?_
      refine Wl.val (Runs.move (by rfl)) rfl ?_
      refine Wl.val (Runs.lenSlice us_29 rfl (p := (row.xs[i]).a) (l := (row.xs[i]).xs.length) (c := (row.xs[i]).cap) (by rfl)) rfl ?_
      refine Wl.val (Runs.add (by rfl) (by rfl) (by have := tot_take row.xs i hi1; have := tot_le row.xs (i + 1); omega)) rfl ?_
      refine Wl.val (Runs.assign (by rfl)) rfl ?_
      refine Wl.nil ?_
      refine At.env [(0, _), (3, _), (9, _), (10, _), (11, _)] ⟨by rfl, by rfl, by rfl, by rfl, by rfl, trivial⟩ ?_
      refine At.then_ ?_
      refine Wc.seq ?_
      -- R6
      refine Wc.region ?_
      refine Wl.val (Runs.move (by rfl)) rfl ?_
      refine Wl.val (Runs.lt (by rfl) (by rfl)) rfl ?_
      refine Wl.nil ?_
      refine At.env [(0, _), (3, _), (9, _), (10, _), (11, _), (20, _)] ⟨by rfl, by rfl, by rfl, by rfl, by rfl, by rfl, trivial⟩ ?_
      refine At.then_ ?_
      -- if 1
      refine Wc.ifdf (by rfl) (by omega) ?_
      refine Wc.skip ?_
      refine At.blockNormal ?_
      refine At.then_ ?_
      -- R8
      refine Wc.region ?_
      refine Wl.val (Runs.add (by rfl) (by rfl) (by omega)) rfl ?_
      refine Wl.val (Runs.move (by rfl)) rfl ?_
      refine Wl.nil ?_
      refine At.env [(0, _), (3, _), (9, _), (10, _), (11, _)] ⟨by rfl, by rfl, by rfl, by rfl, by rfl, trivial⟩ ?_
      exact At.again (i + 1) (by omega) (by omega) ⟨by rfl, by (show _ = some _; rw [tot_take _ _ hi1]; rfl), by rfl, by rfl, by rfl, trivial⟩ (fun _ h => h)
    · skip
      refine Wc.exit ?_
      repeat (first | refine At.thenExit ?_ | refine At.blockOther rfl ?_)
      refine At.blockOut ?_
      refine At.then_ ?_
      refine Wc.seq ?_
      -- R9
      refine Wc.region ?_
      refine Wl.val (Runs.move (by rfl)) rfl ?_
      refine Wl.call en_128 (by rfl) (grow_I (by omega) (by have := tot_le row.xs i; omega)) rfl (fun q0 => ?_)
      try dsimp only
      refine Wl.val (Runs.assign (by rfl)) rfl ?_
      refine Wl.nil ?_
      refine At.env [(0, _), (6, _)] ⟨by rfl, by rfl, trivial⟩ ?_
      refine At.then_ ?_
      refine Wc.seq ?_
      refine Wc.seq ?_
      -- R10
      refine Wc.region ?_
      refine Wl.val (Runs.move (by rfl)) rfl ?_
      refine Wl.val (Runs.lenSlice us_152 rfl (by rfl)) rfl ?_
      refine Wl.val (Runs.move (by rfl)) rfl ?_
      refine Wl.nil ?_
      refine At.env [(6, _), (25, _), (26, _), (27, _)] ⟨by rfl, by rfl, by rfl, by rfl, trivial⟩ ?_
      refine At.then_ ?_
      refine Wc.block ?_
      refine Wc.loop (α := Nat × Sli Int) (fun y => [(6, y.2.v), (25, row.v), (26, .int .i64 ((row.xs.length : Nat) : Int)), (27, .int .i64 (y.1 : Int))]) (fun y => own encI y.2 :: L) (fun y => y.1 ≤ row.xs.length ∧ y.2.xs = cat (row.xs.take y.1)) (fun y => row.xs.length - y.1) (0, ⟨q0.1.1, q0.1.2, []⟩) ?_ ⟨(by rfl), (by rfl), (by rfl), (by rfl), trivial⟩ ?_ ?_
      · skip
        exact ⟨Nat.zero_le _, by simp [cat]⟩
      · skip
        exact fun _ h => h
      · skip
        rintro ⟨i, q⟩ ⟨hI, hq⟩
        dsimp only at hI hq
        have htl := tot_le row.xs i
        try dsimp only
        refine Wc.seq ?_
        -- R11
        refine Wc.region ?_
        refine Wl.val (Runs.lt (by rfl) (by rfl)) rfl ?_
        refine Wl.nil ?_
        refine At.env [(6, _), (25, _), (26, _), (27, _), (28, _)] ⟨by rfl, by rfl, by rfl, by rfl, by rfl, trivial⟩ ?_
        refine At.then_ ?_
        refine Wc.seq ?_
        -- if 2
        first | refine Wc.ifd (by rfl) (fun h2 => ?_) (fun h2 => ?_) | refine Wc.ifb (by rfl) (fun h2 => ?_) (fun h2 => ?_)
        · skip
          refine Wc.skip ?_
          refine At.then_ ?_
          refine Wc.seq ?_
          refine Wc.block ?_
          refine Wc.seq ?_
          -- R12
          refine Wc.region ?_
          have hi1 : i < row.xs.length := by omega
          obtain ⟨b, off, ha⟩ := hr.at hi1
          refine Wl.val (Runs.index us_152 sz_29 (b := b) (off := off) (i := i) (by rw [← ha]; rfl) (by rfl) rfl hi1) rfl ?_
          refine Wl.val (Runs.loadR (e := encS Int 29) (s := row) (b := b) (off := off) (i := i) (j := 0) (v := (row.xs[i]).v) (by rfl) fl_29 hr.there ha (List.getElem?_eq_getElem hi1) rfl) rfl ?_
          refine Wl.val (Runs.assign (by rfl)) rfl ?_
          refine Wl.nil ?_
          refine At.env [(6, _), (8, _), (25, _), (26, _), (27, _)] ⟨by rfl, by rfl, by rfl, by rfl, by rfl, trivial⟩ ?_
          refine At.then_ ?_
          -- R13
          refine Wc.region ?_
          refine Wl.val (Runs.move (by rfl)) rfl ?_
          refine Wl.val (Runs.move (by rfl)) rfl ?_
          refine Wl.valX (RunsX.append el_I rfl rfl (s := q) (r := row.xs[i]) (by rfl) (by rfl) .here (hrs _ (List.getElem_mem hi1)) (by have := tot_take row.xs i hi1; have := tot_le row.xs (i + 1); rw [hq, cat_length]; omega)) rfl (fun r => ?_)
          try dsimp only
          refine Wl.val (Runs.assign (by rfl)) rfl ?_
          refine Wl.nil ?_
          refine At.env [(6, _), (25, _), (26, _), (27, _)] ⟨by rfl, by rfl, by rfl, by rfl, trivial⟩ ?_
          refine At.blockNormal ?_
          refine At.then_ ?_
          -- R14
          refine Wc.region ?_
          refine Wl.val (Runs.add (by rfl) (by rfl) (by omega)) rfl ?_
          refine Wl.val (Runs.move (by rfl)) rfl ?_
          refine Wl.nil ?_
          refine At.env [(6, _), (25, _), (26, _), (27, _)] ⟨by rfl, by rfl, by rfl, by rfl, trivial⟩ ?_
          exact At.again (x := (i, q)) (i + 1, r.1) ⟨by show i + 1 ≤ _; omega, by show r.1.xs = cat (row.xs.take (i + 1)); rw [r.2, hq, cat_take _ _ hi1]⟩ (by show row.xs.length - (i + 1) < row.xs.length - i; omega) ⟨by rfl, by rfl, by rfl, by rfl, trivial⟩ (fun _ h => h)
        · skip
          refine Wc.exit ?_
          repeat (first | refine At.thenExit ?_ | refine At.blockOther rfl ?_)
          refine At.blockOut ?_
          refine At.then_ ?_
          refine Wc.seq ?_
          -- R15
          refine Wc.region ?_
          refine Wl.val (Runs.move (by rfl)) rfl ?_
          refine Wl.val (Runs.assign (by rfl)) rfl ?_
          refine Wl.nil ?_
          refine At.env [(2, _)] ⟨by rfl, trivial⟩ ?_
          refine At.then_ ?_
          refine Wc.ret ?_
          repeat (first | refine At.thenRet ?_ | refine At.blockRet ?_)
          -- ret 0
          exact At.ret1 (⟨q, by rw [hq, show i = row.xs.length by omega, List.take_length]⟩) rfl (by rfl) (fun _ h => h)

theorem all_I {L : List HP} {row : Sli (Sli Int)} (hr : Rds L (encS Int 29) row) (hrs : ∀ s ∈ row.xs, Rds L encI s) (hb : tot row.xs ≤ 1099511627776) (hl : row.xs.length ≤ 1099511627776) : ∀ w, Sat w (L) → Calls Tryd.prog 90 #[row.v] w (Ret (α := { q : Sli Int // q.xs = cat row.xs }) (fun q => q.1.v) (fun q => own encI q.1 :: L)) := by
  refine Spec.enter (n := 5) (vs := [row.v]) Tryd.func90 rfl rfl rfl ?_
  dsimp only [enum, Nat.reduceAdd]
  refine Wc.seq ?_
  -- R0
  refine Wc.region ?_
  refine Wl.val (Runs.assign (by rfl)) rfl ?_
  refine Wl.nil ?_
  refine At.env [(0, _)] ⟨by rfl, trivial⟩ ?_
  refine At.then_ ?_
  refine Wc.seq ?_
  -- R1
  refine Wc.region ?_
  refine Wl.val (Runs.move (by rfl)) rfl ?_
  refine Wl.call en_109 (by rfl) (concat_I hr hrs hb hl) rfl (fun q => ?_)
  try dsimp only
  refine Wl.val (Runs.assign (by rfl)) rfl ?_
  refine Wl.nil ?_
  refine At.env [(2, _)] ⟨by rfl, trivial⟩ ?_
  refine At.then_ ?_
  refine Wc.ret ?_
  repeat (first | refine At.thenRet ?_ | refine At.blockRet ?_)
  -- ret 0
  exact At.ret1 q rfl (by rfl) (fun _ h => h)

theorem grow_R {L : List HP} {m : Int} (h0 : 0 ≤ m) (hb : m ≤ 1099511627776) : ∀ w, Sat w (L) → Calls Tryd.prog 127 #[.slice none 0 0, .int .i64 m] w (Ret (α := { q : Option Addr × Nat // m ≤ (q.2 : Int) }) (fun q => .slice q.1.1 0 q.1.2) (fun q => own encR ⟨q.1.1, q.1.2, []⟩ :: L)) := by
  refine Spec.enter (n := 27) (vs := [.slice none 0 0, .int .i64 m]) Tryd.func127 rfl rfl rfl ?_
  dsimp only [enum, Nat.reduceAdd]
  refine Wc.seq ?_
  -- R0
  refine Wc.region ?_
  refine Wl.val (Runs.assign (by rfl)) rfl ?_
  refine Wl.nil ?_
  refine At.env [(0, _), (1, _)] ⟨by rfl, by rfl, trivial⟩ ?_
  refine At.then_ ?_
  refine Wc.seq ?_
  refine Wc.seq ?_
  -- R1
  refine Wc.region ?_
  refine Wl.val (Runs.move (by rfl)) rfl ?_
  refine Wl.val (Runs.lt (by rfl) (by rfl)) rfl ?_
  refine Wl.nil ?_
  refine At.env [(0, _), (1, _), (6, _)] ⟨by rfl, by rfl, by rfl, trivial⟩ ?_
  refine At.then_ ?_
  -- if 0
  refine Wc.ifdf (by rfl) (by omega) ?_
  refine Wc.skip ?_
  refine At.then_ ?_
  refine Wc.seq ?_
  refine Wc.seq ?_
  -- R3
  refine Wc.region ?_
  refine Wl.val (Runs.move (by rfl)) rfl ?_
  refine Wl.val (Runs.move (by rfl)) rfl ?_
  refine Wl.val (Runs.capSlice us_34 rfl (by rfl)) rfl ?_
  refine Wl.val (Runs.move (by rfl)) rfl ?_
  refine Wl.val (Runs.lenSlice us_34 rfl (by rfl)) rfl ?_
  refine Wl.val (Runs.sub (by rfl) (by rfl) (by omega)) rfl ?_
  refine Wl.val (Runs.sub (by rfl) (by rfl) (by omega)) rfl ?_
  refine Wl.val (Runs.assign (by rfl)) rfl ?_
  refine Wl.nil ?_
  refine At.env [(0, _), (1, _)] ⟨by rfl, by rfl, trivial⟩ ?_
  refine At.then_ ?_
  refine Wc.seq ?_
  -- R4
  refine Wc.region ?_
  refine Wl.val (Runs.move (by rfl)) rfl ?_
  refine Wl.val (Runs.gt (by rfl) (by rfl)) rfl ?_
  refine Wl.nil ?_
  refine At.env [(0, _), (1, _), (16, _)] ⟨by rfl, by rfl, by rfl, trivial⟩ ?_
  refine At.then_ ?_
  -- if 1
  first | refine Wc.ifd (by rfl) (fun h1 => ?_) (fun h1 => ?_) | refine Wc.ifb (by rfl) (fun h1 => ?_) (fun h1 => ?_)
  · skip
    -- R5
    refine Wc.region ?_
    refine Wl.val (Runs.move (by rfl)) rfl ?_
    refine Wl.val (Runs.move (by rfl)) rfl ?_
    refine Wl.val (Runs.capSlice us_34 rfl (by rfl)) rfl ?_
    refine Wl.val (Runs.sliceHi us_34 sz_133 (by rfl) (by rfl) (hi := 0) (by rfl) (by omega)) rfl ?_
    refine Wl.val (Runs.move (by rfl)) rfl ?_
    refine Wl.valX (RunsX.appendMake el_R ik (by rfl) (by rfl) h1 (by omega)) rfl (fun q => ?_)
    try dsimp only
    refine Wl.val (Runs.move (by rfl)) rfl ?_
    refine Wl.val (Runs.lenSlice us_34 rfl (by rfl)) rfl ?_
    refine Wl.val (Runs.sliceHi us_34 sz_133 (by rfl) (by rfl) (hi := 0) (by rfl) (by omega)) rfl ?_
    refine Wl.val (Runs.assign (by rfl)) rfl ?_
    refine Wl.nil ?_
    refine At.env [(0, _)] ⟨by rfl, trivial⟩ ?_
    refine At.then_ ?_
    refine Wc.seq ?_
    -- R6
    refine Wc.region ?_
    refine Wl.val (Runs.move (by rfl)) rfl ?_
    refine Wl.val (Runs.assign (by rfl)) rfl ?_
    refine Wl.nil ?_
    refine At.env [(4, _)] ⟨by rfl, trivial⟩ ?_
    refine At.then_ ?_
    refine Wc.ret ?_
    repeat (first | refine At.thenRet ?_ | refine At.blockRet ?_)
    -- ret 0
    exact At.ret1 (⟨q.1, by have := q.2; omega⟩) rfl (by rfl) (fun _ h => h)
  · skip
    refine Wc.skip ?_
    refine At.then_ ?_
    refine Wc.seq ?_
    -- R6
    refine Wc.region ?_
    refine Wl.val (Runs.move (by rfl)) rfl ?_
    refine Wl.val (Runs.assign (by rfl)) rfl ?_
    refine Wl.nil ?_
    refine At.env [(4, _)] ⟨by rfl, trivial⟩ ?_
    refine At.then_ ?_
    refine Wc.ret ?_
    repeat (first | refine At.thenRet ?_ | refine At.blockRet ?_)
    -- ret 1
    exact At.ret1 (⟨(none, 0), by simp; omega⟩) rfl (by rfl) (fun _ h => h.toOwnNil rfl rfl)

set_option maxHeartbeats 400000 in
theorem concat_R {L : List HP} {row : Sli (Sli Rc)} (hr : Rds L (encS Rc 34) row) (hrs : ∀ s ∈ row.xs, Rds L encR s) (hb : tot row.xs ≤ 1099511627776) (hl : row.xs.length ≤ 1099511627776) : ∀ w, Sat w (L) → Calls Tryd.prog 108 #[row.v] w (Ret (α := { q : Sli Rc // q.xs = cat row.xs }) (fun q => q.1.v) (fun q => own encR q.1 :: L)) := by
  refine Spec.enter (n := 36) (vs := [row.v]) Tryd.func108 rfl rfl rfl ?_
  dsimp only [enum, Nat.reduceAdd]
  refine Wc.seq ?_
  -- R0
  refine Wc.region ?_
  refine Wl.val (Runs.assign (by rfl)) rfl ?_
  refine Wl.nil ?_
  refine At.env [(0, _)] ⟨by rfl, trivial⟩ ?_
  refine At.then_ ?_
  refine Wc.seq ?_
  -- R1
  refine Wc.region ?_
  refine Wl.val (Runs.assign (by rfl)) rfl ?_
  refine Wl.nil ?_
  refine At.env [(0, _), (3, _)] ⟨by rfl, by rfl, trivial⟩ ?_
  refine At.then_ ?_
  refine Wc.seq ?_
  refine Wc.seq ?_
  -- R2
  refine Wc.region ?_
  refine Wl.val (Runs.move (by rfl)) rfl ?_
  refine Wl.val (Runs.lenSlice us_151 rfl (by rfl)) rfl ?_
  refine Wl.val (Runs.move (by rfl)) rfl ?_
  refine Wl.nil ?_
  refine At.env [(0, _), (3, _), (9, _), (10, _), (11, _)] ⟨by rfl, by rfl, by rfl, by rfl, by rfl, trivial⟩ ?_
  refine At.then_ ?_
  refine Wc.block ?_
  refine Wc.loop (α := Nat) (fun i => [(0, row.v), (3, .int .i64 ((tot (row.xs.take i) : Nat) : Int)), (9, row.v), (10, .int .i64 ((row.xs.length : Nat) : Int)), (11, .int .i64 (i : Int))]) (fun i => L) (fun i => i ≤ row.xs.length) (fun i => row.xs.length - i) 0 ?_ ⟨(by rfl), (by rfl), (by rfl), (by rfl), (by rfl), trivial⟩ ?_ ?_
  · skip
    exact Nat.zero_le _
  · skip
    exact fun _ h => h
  · skip
    intro i hI
    have htl := tot_le row.xs i
    try dsimp only
    refine Wc.seq ?_
    -- R3
    refine Wc.region ?_
    refine Wl.val (Runs.lt (by rfl) (by rfl)) rfl ?_
    refine Wl.nil ?_
    refine At.env [(0, _), (3, _), (9, _), (10, _), (11, _), (12, _)] ⟨by rfl, by rfl, by rfl, by rfl, by rfl, by rfl, trivial⟩ ?_
    refine At.then_ ?_
    refine Wc.seq ?_
    -- if 0
    first | refine Wc.ifd (by rfl) (fun h1 => ?_) (fun h1 => ?_) | refine Wc.ifb (by rfl) (fun h1 => ?_) (fun h1 => ?_)
    · skip
      refine Wc.skip ?_
      refine At.then_ ?_
      refine Wc.seq ?_
      refine Wc.block ?_
      refine Wc.seq ?_
      -- R4
      refine Wc.region ?_
      have hi1 : i < row.xs.length := by omega
      obtain ⟨b, off, ha⟩ := hr.at hi1
      refine Wl.val (Runs.index us_151 sz_34 (b := b) (off := off) (i := i) (by rw [← ha]; rfl) (by rfl) rfl hi1) rfl ?_
      refine Wl.val (Runs.loadR (e := encS Rc 34) (s := row) (b := b) (off := off) (i := i) (j := 0) (v := (row.xs[i]).v) (by rfl) fl_34 hr ha (List.getElem?_eq_getElem hi1) rfl) rfl ?_
      refine Wl.val (Runs.assign (by rfl)) rfl ?_
      refine Wl.nil ?_
      refine At.env [(0, _), (3, _), (5, _), (9, _), (10, _), (11, _)] ⟨by rfl, by rfl, by rfl, by rfl, by rfl, by rfl, trivial⟩ ?_
      refine At.then_ ?_
      refine Wc.seq ?_
      -- R5
      refine Wc.region ?_
      refine Wl.val (Runs.move (by rfl)) rfl ?_
      refine Wl.val (Runs.move (by rfl)) rfl ?_
      refine Wl.val (Runs.lenSlice us_34 rfl (p := (row.xs[i]).a) (l := (row.xs[i]).xs.length) (c := (row.xs[i]).cap) (by rfl)) rfl ?_
      refine Wl.val (Runs.add (by rfl) (by rfl) (by have := tot_take row.xs i hi1; have := tot_le row.xs (i + 1); omega)) rfl ?_
      refine Wl.val (Runs.assign (by rfl)) rfl ?_
      refine Wl.nil ?_
      refine At.env [(0, _), (3, _), (9, _), (10, _), (11, _)] ⟨by rfl, by rfl, by rfl, by rfl, by rfl, trivial⟩ ?_
      refine At.then_ ?_
      refine Wc.seq ?_
      -- R6
      refine Wc.region ?_
      refine Wl.val (Runs.move (by rfl)) rfl ?_
      refine Wl.val (Runs.lt (by rfl) (by rfl)) rfl ?_
      refine Wl.nil ?_
      refine At.env [(0, _), (3, _), (9, _), (10, _), (11, _), (20, _)] ⟨by rfl, by rfl, by rfl, by rfl, by rfl, by rfl, trivial⟩ ?_
      refine At.then_ ?_
      -- if 1
      refine Wc.ifdf (by rfl) (by omega) ?_
      refine Wc.skip ?_
      refine At.blockNormal ?_
      refine At.then_ ?_
      -- R8
      refine Wc.region ?_
      refine Wl.val (Runs.add (by rfl) (by rfl) (by omega)) rfl ?_
      refine Wl.val (Runs.move (by rfl)) rfl ?_
      refine Wl.nil ?_
      refine At.env [(0, _), (3, _), (9, _), (10, _), (11, _)] ⟨by rfl, by rfl, by rfl, by rfl, by rfl, trivial⟩ ?_
      exact At.again (i + 1) (by omega) (by omega) ⟨by rfl, by (show _ = some _; rw [tot_take _ _ hi1]; rfl), by rfl, by rfl, by rfl, trivial⟩ (fun _ h => h)
    · skip
      refine Wc.exit ?_
      repeat (first | refine At.thenExit ?_ | refine At.blockOther rfl ?_)
      refine At.blockOut ?_
      refine At.then_ ?_
      refine Wc.seq ?_
      -- R9
      refine Wc.region ?_
      refine Wl.val (Runs.move (by rfl)) rfl ?_
      refine Wl.call en_127 (by rfl) (grow_R (by omega) (by have := tot_le row.xs i; omega)) rfl (fun q0 => ?_)
      try dsimp only
      refine Wl.val (Runs.assign (by rfl)) rfl ?_
      refine Wl.nil ?_
      refine At.env [(0, _), (6, _)] ⟨by rfl, by rfl, trivial⟩ ?_
      refine At.then_ ?_
      refine Wc.seq ?_
      refine Wc.seq ?_
      -- R10
      refine Wc.region ?_
      refine Wl.val (Runs.move (by rfl)) rfl ?_
      refine Wl.val (Runs.lenSlice us_151 rfl (by rfl)) rfl ?_
      refine Wl.val (Runs.move (by rfl)) rfl ?_
      refine Wl.nil ?_
      refine At.env [(6, _), (25, _), (26, _), (27, _)] ⟨by rfl, by rfl, by rfl, by rfl, trivial⟩ ?_
      refine At.then_ ?_
      refine Wc.block ?_
      refine Wc.loop (α := Nat × Sli Rc) (fun y => [(6, y.2.v), (25, row.v), (26, .int .i64 ((row.xs.length : Nat) : Int)), (27, .int .i64 (y.1 : Int))]) (fun y => own encR y.2 :: L) (fun y => y.1 ≤ row.xs.length ∧ y.2.xs = cat (row.xs.take y.1)) (fun y => row.xs.length - y.1) (0, ⟨q0.1.1, q0.1.2, []⟩) ?_ ⟨(by rfl), (by rfl), (by rfl), (by rfl), trivial⟩ ?_ ?_
      · skip
        exact ⟨Nat.zero_le _, by simp [cat]⟩
      · skip
        exact fun _ h => h
      · skip
        rintro ⟨i, q⟩ ⟨hI, hq⟩
        dsimp only at hI hq
        have htl := tot_le row.xs i
        try dsimp only
        refine Wc.seq ?_
        -- R11
        refine Wc.region ?_
        refine Wl.val (Runs.lt (by rfl) (by rfl)) rfl ?_
        refine Wl.nil ?_
        refine At.env [(6, _), (25, _), (26, _), (27, _), (28, _)] ⟨by rfl, by rfl, by rfl, by rfl, by rfl, trivial⟩ ?_
        refine At.then_ ?_
        refine Wc.seq ?_
        -- if 2
        first | refine Wc.ifd (by rfl) (fun h2 => ?_) (fun h2 => ?_) | refine Wc.ifb (by rfl) (fun h2 => ?_) (fun h2 => ?_)
        · skip
          refine Wc.skip ?_
          refine At.then_ ?_
          refine Wc.seq ?_
          refine Wc.block ?_
          refine Wc.seq ?_
          -- R12
          refine Wc.region ?_
          have hi1 : i < row.xs.length := by omega
          obtain ⟨b, off, ha⟩ := hr.at hi1
          refine Wl.val (Runs.index us_151 sz_34 (b := b) (off := off) (i := i) (by rw [← ha]; rfl) (by rfl) rfl hi1) rfl ?_
          refine Wl.val (Runs.loadR (e := encS Rc 34) (s := row) (b := b) (off := off) (i := i) (j := 0) (v := (row.xs[i]).v) (by rfl) fl_34 hr.there ha (List.getElem?_eq_getElem hi1) rfl) rfl ?_
          refine Wl.val (Runs.assign (by rfl)) rfl ?_
          refine Wl.nil ?_
          refine At.env [(6, _), (8, _), (25, _), (26, _), (27, _)] ⟨by rfl, by rfl, by rfl, by rfl, by rfl, trivial⟩ ?_
          refine At.then_ ?_
          -- R13
          refine Wc.region ?_
          refine Wl.val (Runs.move (by rfl)) rfl ?_
          refine Wl.val (Runs.move (by rfl)) rfl ?_
          refine Wl.valX (RunsX.append el_R rfl rfl (s := q) (r := row.xs[i]) (by rfl) (by rfl) .here (hrs _ (List.getElem_mem hi1)) (by have := tot_take row.xs i hi1; have := tot_le row.xs (i + 1); rw [hq, cat_length]; omega)) rfl (fun r => ?_)
          try dsimp only
          refine Wl.val (Runs.assign (by rfl)) rfl ?_
          refine Wl.nil ?_
          refine At.env [(6, _), (25, _), (26, _), (27, _)] ⟨by rfl, by rfl, by rfl, by rfl, trivial⟩ ?_
          refine At.blockNormal ?_
          refine At.then_ ?_
          -- R14
          refine Wc.region ?_
          refine Wl.val (Runs.add (by rfl) (by rfl) (by omega)) rfl ?_
          refine Wl.val (Runs.move (by rfl)) rfl ?_
          refine Wl.nil ?_
          refine At.env [(6, _), (25, _), (26, _), (27, _)] ⟨by rfl, by rfl, by rfl, by rfl, trivial⟩ ?_
          exact At.again (x := (i, q)) (i + 1, r.1) ⟨by show i + 1 ≤ _; omega, by show r.1.xs = cat (row.xs.take (i + 1)); rw [r.2, hq, cat_take _ _ hi1]⟩ (by show row.xs.length - (i + 1) < row.xs.length - i; omega) ⟨by rfl, by rfl, by rfl, by rfl, trivial⟩ (fun _ h => h)
        · skip
          refine Wc.exit ?_
          repeat (first | refine At.thenExit ?_ | refine At.blockOther rfl ?_)
          refine At.blockOut ?_
          refine At.then_ ?_
          refine Wc.seq ?_
          -- R15
          refine Wc.region ?_
          refine Wl.val (Runs.move (by rfl)) rfl ?_
          refine Wl.val (Runs.assign (by rfl)) rfl ?_
          refine Wl.nil ?_
          refine At.env [(2, _)] ⟨by rfl, trivial⟩ ?_
          refine At.then_ ?_
          refine Wc.ret ?_
          repeat (first | refine At.thenRet ?_ | refine At.blockRet ?_)
          -- ret 0
          exact At.ret1 (⟨q, by rw [hq, show i = row.xs.length by omega, List.take_length]⟩) rfl (by rfl) (fun _ h => h)

theorem all_R {L : List HP} {row : Sli (Sli Rc)} (hr : Rds L (encS Rc 34) row) (hrs : ∀ s ∈ row.xs, Rds L encR s) (hb : tot row.xs ≤ 1099511627776) (hl : row.xs.length ≤ 1099511627776) : ∀ w, Sat w (L) → Calls Tryd.prog 89 #[row.v] w (Ret (α := { q : Sli Rc // q.xs = cat row.xs }) (fun q => q.1.v) (fun q => own encR q.1 :: L)) := by
  refine Spec.enter (n := 5) (vs := [row.v]) Tryd.func89 rfl rfl rfl ?_
  dsimp only [enum, Nat.reduceAdd]
  refine Wc.seq ?_
  -- R0
  refine Wc.region ?_
  refine Wl.val (Runs.assign (by rfl)) rfl ?_
  refine Wl.nil ?_
  refine At.env [(0, _)] ⟨by rfl, trivial⟩ ?_
  refine At.then_ ?_
  refine Wc.seq ?_
  -- R1
  refine Wc.region ?_
  refine Wl.val (Runs.move (by rfl)) rfl ?_
  refine Wl.call en_108 (by rfl) (concat_R hr hrs hb hl) rfl (fun q => ?_)
  try dsimp only
  refine Wl.val (Runs.assign (by rfl)) rfl ?_
  refine Wl.nil ?_
  refine At.env [(2, _)] ⟨by rfl, trivial⟩ ?_
  refine At.then_ ?_
  refine Wc.ret ?_
  repeat (first | refine At.thenRet ?_ | refine At.blockRet ?_)
  -- ret 0
  exact At.ret1 q rfl (by rfl) (fun _ h => h)

theorem grow_C {L : List HP} {m : Int} (h0 : 0 ≤ m) (hb : m ≤ 1099511627776) : ∀ w, Sat w (L) → Calls Tryd.prog 126 #[.slice none 0 0, .int .i64 m] w (Ret (α := { q : Option Addr × Nat // m ≤ (q.2 : Int) }) (fun q => .slice q.1.1 0 q.1.2) (fun q => own encC ⟨q.1.1, q.1.2, []⟩ :: L)) := by
  refine Spec.enter (n := 27) (vs := [.slice none 0 0, .int .i64 m]) Tryd.func126 rfl rfl rfl ?_
  dsimp only [enum, Nat.reduceAdd]
  refine Wc.seq ?_
  -- R0
  refine Wc.region ?_
  refine Wl.val (Runs.assign (by rfl)) rfl ?_
  refine Wl.nil ?_
  refine At.env [(0, _), (1, _)] ⟨by rfl, by rfl, trivial⟩ ?_
  refine At.then_ ?_
  refine Wc.seq ?_
  refine Wc.seq ?_
  -- R1
  refine Wc.region ?_
  refine Wl.val (Runs.move (by rfl)) rfl ?_
  refine Wl.val (Runs.lt (by rfl) (by rfl)) rfl ?_
  refine Wl.nil ?_
  refine At.env [(0, _), (1, _), (6, _)] ⟨by rfl, by rfl, by rfl, trivial⟩ ?_
  refine At.then_ ?_
  -- if 0
  refine Wc.ifdf (by rfl) (by omega) ?_
  refine Wc.skip ?_
  refine At.then_ ?_
  refine Wc.seq ?_
  refine Wc.seq ?_
  -- R3
  refine Wc.region ?_
  refine Wl.val (Runs.move (by rfl)) rfl ?_
  refine Wl.val (Runs.move (by rfl)) rfl ?_
  refine Wl.val (Runs.capSlice us_35 rfl (by rfl)) rfl ?_
  refine Wl.val (Runs.move (by rfl)) rfl ?_
  refine Wl.val (Runs.lenSlice us_35 rfl (by rfl)) rfl ?_
  refine Wl.val (Runs.sub (by rfl) (by rfl) (by omega)) rfl ?_
  refine Wl.val (Runs.sub (by rfl) (by rfl) (by omega)) rfl ?_
  refine Wl.val (Runs.assign (by rfl)) rfl ?_
  refine Wl.nil ?_
  refine At.env [(0, _), (1, _)] ⟨by rfl, by rfl, trivial⟩ ?_
  refine At.then_ ?_
  refine Wc.seq ?_
  -- R4
  refine Wc.region ?_
  refine Wl.val (Runs.move (by rfl)) rfl ?_
  refine Wl.val (Runs.gt (by rfl) (by rfl)) rfl ?_
  refine Wl.nil ?_
  refine At.env [(0, _), (1, _), (16, _)] ⟨by rfl, by rfl, by rfl, trivial⟩ ?_
  refine At.then_ ?_
  -- if 1
  first | refine Wc.ifd (by rfl) (fun h1 => ?_) (fun h1 => ?_) | refine Wc.ifb (by rfl) (fun h1 => ?_) (fun h1 => ?_)
  · skip
    -- R5
    refine Wc.region ?_
    refine Wl.val (Runs.move (by rfl)) rfl ?_
    refine Wl.val (Runs.move (by rfl)) rfl ?_
    refine Wl.val (Runs.capSlice us_35 rfl (by rfl)) rfl ?_
    refine Wl.val (Runs.sliceHi us_35 sz_73 (by rfl) (by rfl) (hi := 0) (by rfl) (by omega)) rfl ?_
    refine Wl.val (Runs.move (by rfl)) rfl ?_
    refine Wl.valX (RunsX.appendMake el_C ik (by rfl) (by rfl) h1 (by omega)) rfl (fun q => ?_)
    try dsimp only
    refine Wl.val (Runs.move (by rfl)) rfl ?_
    refine Wl.val (Runs.lenSlice us_35 rfl (by rfl)) rfl ?_
    refine Wl.val (Runs.sliceHi us_35 sz_73 (by rfl) (by rfl) (hi := 0) (by rfl) (by omega)) rfl ?_
    refine Wl.val (Runs.assign (by rfl)) rfl ?_
    refine Wl.nil ?_
    refine At.env [(0, _)] ⟨by rfl, trivial⟩ ?_
    refine At.then_ ?_
    refine Wc.seq ?_
    -- R6
    refine Wc.region ?_
    refine Wl.val (Runs.move (by rfl)) rfl ?_
    refine Wl.val (Runs.assign (by rfl)) rfl ?_
    refine Wl.nil ?_
    refine At.env [(4, _)] ⟨by rfl, trivial⟩ ?_
    refine At.then_ ?_
    refine Wc.ret ?_
    repeat (first | refine At.thenRet ?_ | refine At.blockRet ?_)
    -- ret 0
    exact At.ret1 (⟨q.1, by have := q.2; omega⟩) rfl (by rfl) (fun _ h => h)
  · skip
    refine Wc.skip ?_
    refine At.then_ ?_
    refine Wc.seq ?_
    -- R6
    refine Wc.region ?_
    refine Wl.val (Runs.move (by rfl)) rfl ?_
    refine Wl.val (Runs.assign (by rfl)) rfl ?_
    refine Wl.nil ?_
    refine At.env [(4, _)] ⟨by rfl, trivial⟩ ?_
    refine At.then_ ?_
    refine Wc.ret ?_
    repeat (first | refine At.thenRet ?_ | refine At.blockRet ?_)
    -- ret 1
    exact At.ret1 (⟨(none, 0), by simp; omega⟩) rfl (by rfl) (fun _ h => h.toOwnNil rfl rfl)

set_option maxHeartbeats 400000 in
theorem concat_C {L : List HP} {row : Sli (Sli Ch)} (hr : Rds L (encS Ch 35) row) (hrs : ∀ s ∈ row.xs, Rds L encC s) (hb : tot row.xs ≤ 1099511627776) (hl : row.xs.length ≤ 1099511627776) : ∀ w, Sat w (L) → Calls Tryd.prog 107 #[row.v] w (Ret (α := { q : Sli Ch // q.xs = cat row.xs }) (fun q => q.1.v) (fun q => own encC q.1 :: L)) := by
  refine Spec.enter (n := 36) (vs := [row.v]) Tryd.func107 rfl rfl rfl ?_
  dsimp only [enum, Nat.reduceAdd]
  refine Wc.seq ?_
  -- R0
  refine Wc.region ?_
  refine Wl.val (Runs.assign (by rfl)) rfl ?_
  refine Wl.nil ?_
  refine At.env [(0, _)] ⟨by rfl, trivial⟩ ?_
  refine At.then_ ?_
  refine Wc.seq ?_
  -- R1
  refine Wc.region ?_
  refine Wl.val (Runs.assign (by rfl)) rfl ?_
  refine Wl.nil ?_
  refine At.env [(0, _), (3, _)] ⟨by rfl, by rfl, trivial⟩ ?_
  refine At.then_ ?_
  refine Wc.seq ?_
  refine Wc.seq ?_
  -- R2
  refine Wc.region ?_
  refine Wl.val (Runs.move (by rfl)) rfl ?_
  refine Wl.val (Runs.lenSlice us_150 rfl (by rfl)) rfl ?_
  refine Wl.val (Runs.move (by rfl)) rfl ?_
  refine Wl.nil ?_
  refine At.env [(0, _), (3, _), (9, _), (10, _), (11, _)] ⟨by rfl, by rfl, by rfl, by rfl, by rfl, trivial⟩ ?_
  refine At.then_ ?_
  refine Wc.block ?_
  refine Wc.loop (α := Nat) (fun i => [(0, row.v), (3, .int .i64 ((tot (row.xs.take i) : Nat) : Int)), (9, row.v), (10, .int .i64 ((row.xs.length : Nat) : Int)), (11, .int .i64 (i : Int))]) (fun i => L) (fun i => i ≤ row.xs.length) (fun i => row.xs.length - i) 0 ?_ ⟨(by rfl), (by rfl), (by rfl), (by rfl), (by rfl), trivial⟩ ?_ ?_
  · skip
    exact Nat.zero_le _
  · skip
    exact fun _ h => h
  · skip
    intro i hI
    have htl := tot_le row.xs i
    try dsimp only
    refine Wc.seq ?_
    -- R3
    refine Wc.region ?_
    refine Wl.val (Runs.lt (by rfl) (by rfl)) rfl ?_
    refine Wl.nil ?_
    refine At.env [(0, _), (3, _), (9, _), (10, _), (11, _), (12, _)] ⟨by rfl, by rfl, by rfl, by rfl, by rfl, by rfl, trivial⟩ ?_
    refine At.then_ ?_
    refine Wc.seq ?_
    -- if 0
    first | refine Wc.ifd (by rfl) (fun h1 => ?_) (fun h1 => ?_) | refine Wc.ifb (by rfl) (fun h1 => ?_) (fun h1 => ?_)
    · skip
      refine Wc.skip ?_
      refine At.then_ ?_
      refine Wc.seq ?_
      refine Wc.block ?_
      refine Wc.seq ?_
      -- R4
      refine Wc.region ?_
      have hi1 : i < row.xs.length := by omega
      obtain ⟨b, off, ha⟩ := hr.at hi1
      refine Wl.val (Runs.index us_150 sz_35 (b := b) (off := off) (i := i) (by rw [← ha]; rfl) (by rfl) rfl hi1) rfl ?_
      refine Wl.val (Runs.loadR (e := encS Ch 35) (s := row) (b := b) (off := off) (i := i) (j := 0) (v := (row.xs[i]).v) (by rfl) fl_35 hr ha (List.getElem?_eq_getElem hi1) rfl) rfl ?_
      refine Wl.val (Runs.assign (by rfl)) rfl ?_
      refine Wl.nil ?_
      refine At.env [(0, _), (3, _), (5, _), (9, _), (10, _), (11, _)] ⟨by rfl, by rfl, by rfl, by rfl, by rfl, by rfl, trivial⟩ ?_
      refine At.then_ ?_
      refine Wc.seq ?_
      -- R5
      refine Wc.region ?_
      refine Wl.val (Runs.move (by rfl)) rfl ?_
      refine Wl.val (Runs.move (by rfl)) rfl ?_
      refine Wl.val (Runs.lenSlice us_35 rfl (p := (row.xs[i]).a) (l := (row.xs[i]).xs.length) (c := (row.xs[i]).cap) (by rfl)) rfl ?_
      refine Wl.val (Runs.add (by rfl) (by rfl) (by have := tot_take row.xs i hi1; have := tot_le row.xs (i + 1); omega)) rfl ?_
      refine Wl.val (Runs.assign (by rfl)) rfl ?_
      refine Wl.nil ?_
      refine At.env [(0, _), (3, _), (9, _), (10, _), (11, _)] ⟨by rfl, by rfl, by rfl, by rfl, by rfl, trivial⟩ ?_
      refine At.then_ ?_
      refine Wc.seq ?_
      -- R6
      refine Wc.region ?_
      refine Wl.val (Runs.move (by rfl)) rfl ?_
      refine Wl.val (Runs.lt (by rfl) (by rfl)) rfl ?_
      refine Wl.nil ?_
      refine At.env [(0, _), (3, _), (9, _), (10, _), (11, _), (20, _)] ⟨by rfl, by rfl, by rfl, by rfl, by rfl, by rfl, trivial⟩ ?_
      refine At.then_ ?_
      -- if 1
      refine Wc.ifdf (by rfl) (by omega) ?_
      refine Wc.skip ?_
      refine At.blockNormal ?_
      refine At.then_ ?_
      -- R8
      refine Wc.region ?_
      refine Wl.val (Runs.add (by rfl) (by rfl) (by omega)) rfl ?_
      refine Wl.val (Runs.move (by rfl)) rfl ?_
      refine Wl.nil ?_
      refine At.env [(0, _), (3, _), (9, _), (10, _), (11, _)] ⟨by rfl, by rfl, by rfl, by rfl, by rfl, trivial⟩ ?_
      exact At.again (i + 1) (by omega) (by omega) ⟨by rfl, by (show _ = some _; rw [tot_take _ _ hi1]; rfl), by rfl, by rfl, by rfl, trivial⟩ (fun _ h => h)
    · skip
      refine Wc.exit ?_
      repeat (first | refine At.thenExit ?_ | refine At.blockOther rfl ?_)
      refine At.blockOut ?_
      refine At.then_ ?_
      refine Wc.seq ?_
      -- R9
      refine Wc.region ?_
      refine Wl.val (Runs.move (by rfl)) rfl ?_
      refine Wl.call en_126 (by rfl) (grow_C (by omega) (by have := tot_le row.xs i; omega)) rfl (fun q0 => ?_)
      try dsimp only
      refine Wl.val (Runs.assign (by rfl)) rfl ?_
      refine Wl.nil ?_
      refine At.env [(0, _), (6, _)] ⟨by rfl, by rfl, trivial⟩ ?_
      refine At.then_ ?_
      refine Wc.seq ?_
      refine Wc.seq ?_
      -- R10
      refine Wc.region ?_
      refine Wl.val (Runs.move (by rfl)) rfl ?_
      refine Wl.val (Runs.lenSlice us_150 rfl (by rfl)) rfl ?_
      refine Wl.val (Runs.move (by rfl)) rfl ?_
      refine Wl.nil ?_
      refine At.env [(6, _), (25, _), (26, _), (27, _)] ⟨by rfl, by rfl, by rfl, by rfl, trivial⟩ ?_
      refine At.then_ ?_
      refine Wc.block ?_
      refine Wc.loop (α := Nat × Sli Ch) (fun y => [(6, y.2.v), (25, row.v), (26, .int .i64 ((row.xs.length : Nat) : Int)), (27, .int .i64 (y.1 : Int))]) (fun y => own encC y.2 :: L) (fun y => y.1 ≤ row.xs.length ∧ y.2.xs = cat (row.xs.take y.1)) (fun y => row.xs.length - y.1) (0, ⟨q0.1.1, q0.1.2, []⟩) ?_ ⟨(by rfl), (by rfl), (by rfl), (by rfl), trivial⟩ ?_ ?_
      · skip
        exact ⟨Nat.zero_le _, by simp [cat]⟩
      · skip
        exact fun _ h => h
      · skip
        rintro ⟨i, q⟩ ⟨hI, hq⟩
        dsimp only at hI hq
        have htl := tot_le row.xs i
        try dsimp only
        refine Wc.seq ?_
        -- R11
        refine Wc.region ?_
        refine Wl.val (Runs.lt (by rfl) (by rfl)) rfl ?_
        refine Wl.nil ?_
        refine At.env [(6, _), (25, _), (26, _), (27, _), (28, _)] ⟨by rfl, by rfl, by rfl, by rfl, by rfl, trivial⟩ ?_
        refine At.then_ ?_
        refine Wc.seq ?_
        -- if 2
        first | refine Wc.ifd (by rfl) (fun h2 => ?_) (fun h2 => ?_) | refine Wc.ifb (by rfl) (fun h2 => ?_) (fun h2 => ?_)
        · skip
          refine Wc.skip ?_
          refine At.then_ ?_
          refine Wc.seq ?_
          refine Wc.block ?_
          refine Wc.seq ?_
          -- R12
          refine Wc.region ?_
          have hi1 : i < row.xs.length := by omega
          obtain ⟨b, off, ha⟩ := hr.at hi1
          refine Wl.val (Runs.index us_150 sz_35 (b := b) (off := off) (i := i) (by rw [← ha]; rfl) (by rfl) rfl hi1) rfl ?_
          refine Wl.val (Runs.loadR (e := encS Ch 35) (s := row) (b := b) (off := off) (i := i) (j := 0) (v := (row.xs[i]).v) (by rfl) fl_35 hr.there ha (List.getElem?_eq_getElem hi1) rfl) rfl ?_
          refine Wl.val (Runs.assign (by rfl)) rfl ?_
          refine Wl.nil ?_
          refine At.env [(6, _), (8, _), (25, _), (26, _), (27, _)] ⟨by rfl, by rfl, by rfl, by rfl, by rfl, trivial⟩ ?_
          refine At.then_ ?_
          -- R13
          refine Wc.region ?_
          refine Wl.val (Runs.move (by rfl)) rfl ?_
          refine Wl.val (Runs.move (by rfl)) rfl ?_
          refine Wl.valX (RunsX.append el_C rfl rfl (s := q) (r := row.xs[i]) (by rfl) (by rfl) .here (hrs _ (List.getElem_mem hi1)) (by have := tot_take row.xs i hi1; have := tot_le row.xs (i + 1); rw [hq, cat_length]; omega)) rfl (fun r => ?_)
          try dsimp only
          refine Wl.val (Runs.assign (by rfl)) rfl ?_
          refine Wl.nil ?_
          refine At.env [(6, _), (25, _), (26, _), (27, _)] ⟨by rfl, by rfl, by rfl, by rfl, trivial⟩ ?_
          refine At.blockNormal ?_
          refine At.then_ ?_
          -- R14
          refine Wc.region ?_
          refine Wl.val (Runs.add (by rfl) (by rfl) (by omega)) rfl ?_
          refine Wl.val (Runs.move (by rfl)) rfl ?_
          refine Wl.nil ?_
          refine At.env [(6, _), (25, _), (26, _), (27, _)] ⟨by rfl, by rfl, by rfl, by rfl, trivial⟩ ?_
          exact At.again (x := (i, q)) (i + 1, r.1) ⟨by show i + 1 ≤ _; omega, by show r.1.xs = cat (row.xs.take (i + 1)); rw [r.2, hq, cat_take _ _ hi1]⟩ (by show row.xs.length - (i + 1) < row.xs.length - i; omega) ⟨by rfl, by rfl, by rfl, by rfl, trivial⟩ (fun _ h => h)
        · skip
          refine Wc.exit ?_
          repeat (first | refine At.thenExit ?_ | refine At.blockOther rfl ?_)
          refine At.blockOut ?_
          refine At.then_ ?_
          refine Wc.seq ?_
          -- R15
          refine Wc.region ?_
          refine Wl.val (Runs.move (by rfl)) rfl ?_
          refine Wl.val (Runs.assign (by rfl)) rfl ?_
          refine Wl.nil ?_
          refine At.env [(2, _)] ⟨by rfl, trivial⟩ ?_
          refine At.then_ ?_
          refine Wc.ret ?_
          repeat (first | refine At.thenRet ?_ | refine At.blockRet ?_)
          -- ret 0
          exact At.ret1 (⟨q, by rw [hq, show i = row.xs.length by omega, List.take_length]⟩) rfl (by rfl) (fun _ h => h)

theorem all_C {L : List HP} {row : Sli (Sli Ch)} (hr : Rds L (encS Ch 35) row) (hrs : ∀ s ∈ row.xs, Rds L encC s) (hb : tot row.xs ≤ 1099511627776) (hl : row.xs.length ≤ 1099511627776) : ∀ w, Sat w (L) → Calls Tryd.prog 88 #[row.v] w (Ret (α := { q : Sli Ch // q.xs = cat row.xs }) (fun q => q.1.v) (fun q => own encC q.1 :: L)) := by
  refine Spec.enter (n := 5) (vs := [row.v]) Tryd.func88 rfl rfl rfl ?_
  dsimp only [enum, Nat.reduceAdd]
  refine Wc.seq ?_
  -- R0
  refine Wc.region ?_
  refine Wl.val (Runs.assign (by rfl)) rfl ?_
  refine Wl.nil ?_
  refine At.env [(0, _)] ⟨by rfl, trivial⟩ ?_
  refine At.then_ ?_
  refine Wc.seq ?_
  -- R1
  refine Wc.region ?_
  refine Wl.val (Runs.move (by rfl)) rfl ?_
  refine Wl.call en_107 (by rfl) (concat_C hr hrs hb hl) rfl (fun q => ?_)
  try dsimp only
  refine Wl.val (Runs.assign (by rfl)) rfl ?_
  refine Wl.nil ?_
  refine At.env [(2, _)] ⟨by rfl, trivial⟩ ?_
  refine At.then_ ?_
  refine Wc.ret ?_
  repeat (first | refine At.thenRet ?_ | refine At.blockRet ?_)
  -- ret 0
  exact At.ret1 q rfl (by rfl) (fun _ h => h)
end Go.Proofs.Sl

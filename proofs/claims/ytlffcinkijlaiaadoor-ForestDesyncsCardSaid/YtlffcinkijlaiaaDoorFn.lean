/- Printed by a program of this session out of the translation (wip/tools/gen.py): walks. -/
import Derived.Test.YtlffcinkijlaiaaDoorFm
import Derived.Test.YtlffcinkijlaiaaDoorSlRow
import Derived.Test.YtlffcinkijlaiaaDoorProg
import Derived.KernelRfl
namespace Go.Proofs.Sl
open Go
set_option linter.unusedVariables false
set_option linter.unusedSimpArgs false
set_option maxRecDepth 20000
theorem us_22 : ∀ w, (underlying 22).run Tryd.prog w = .ok (.slice 4) w := fun _ => by kernel_rfl
theorem ub_4 : ∀ w, (underlying 4).run Tryd.prog w = .ok .bool w := fun _ => by kernel_rfl
theorem en_13 : Enters Tryd.prog 13 := fun _ _ => by kernel_rfl
theorem en_14 : Enters Tryd.prog 14 := fun _ _ => by kernel_rfl
theorem en_15 : Enters Tryd.prog 15 := fun _ _ => by kernel_rfl
theorem en_16 : Enters Tryd.prog 16 := fun _ _ => by kernel_rfl
theorem en_17 : Enters Tryd.prog 17 := fun _ _ => by kernel_rfl
theorem en_18 : Enters Tryd.prog 18 := fun _ _ => by kernel_rfl

structure DSt where
  i : Nat
  sy : Bool
  now : Int
  t : Bool
  ca : Int
  F : Fo

set_option maxHeartbeats 1000000 in
theorem desyncs_spec {L : List HP} {p : Nat → Addr} (hG : Gl L p) {b : Int} {on : Sli Bool} (hr : RdA L encB on) (hb : on.xs.length ≤ 9223372036854775807) : ∀ w, Sat w (L) → Calls Tryd.prog 3 #[.int .i64 b, on.v] w (Ret (α := Unit) (fun _ => .bool true) (fun _ => L)) := by
  refine Spec.enter (n := 110) (vs := [.int .i64 b, on.v]) Tryd.func3 rfl rfl rfl ?_
  dsimp only [enum, Nat.reduceAdd]
  refine Wc.seq ?_
  -- R0
  refine Wc.region ?_
  refine Wl.val (Runs.assign (by rfl)) rfl ?_
  refine Wl.nil ?_
  refine At.env [(0, _), (1, _)] ⟨by rfl, by rfl, trivial⟩ ?_
  refine At.then_ ?_
  refine Wc.seq ?_
  -- R1
  refine Wc.region ?_
  refine Wl.call en_9 (by rfl) (new_spec) rfl (fun x14 => ?_)
  try dsimp only
  obtain ⟨F0, e0⟩ := x14
  try dsimp only
  refine Wl.val (Runs.assign (by rfl)) rfl ?_
  refine Wl.nil ?_
  refine At.env [(0, _), (1, _), (5, _)] ⟨by rfl, by rfl, by rfl, trivial⟩ ?_
  refine At.then_ ?_
  refine Wc.seq ?_
  refine Wc.seq ?_
  -- R2
  refine Wc.region ?_
  refine Wl.val (Runs.move (by rfl)) rfl ?_
  refine Wl.val (Runs.eqp1 up_23 (by rfl)) rfl ?_
  refine Wl.val (Runs.move (by rfl)) rfl ?_
  refine Wl.wanted (d := 17) rfl rfl ?_
  refine Wl.val (Runs.move (by rfl)) rfl ?_
  refine Wl.wanted (d := 17) rfl rfl ?_
  refine Wl.call en_10 (by rfl) (add' rfl hG) rfl (fun x19 => ?_)
  try dsimp only
  refine Wl.wanted (d := 17) rfl rfl ?_
  obtain ⟨F1, hf1, he1⟩ := x19
  try dsimp only
  have e1 : F1.abs = G1 := by rw [he1, e0, G1_add]
  rw [e0, G1_add]
  refine Wl.val (Runs.nei0 ui_26 (by rfl)) rfl ?_
  refine Wl.val (Runs.pickf (by rfl) (by rfl)) rfl ?_
  refine Wl.val (Runs.move (by rfl)) rfl ?_
  refine Wl.wanted (d := 22) rfl rfl ?_
  refine Wl.val (Runs.move (by rfl)) rfl ?_
  refine Wl.wanted (d := 22) rfl rfl ?_
  refine Wl.call en_10 (by rfl) (add' hf1 hG) rfl (fun x24 => ?_)
  try dsimp only
  refine Wl.wanted (d := 22) rfl rfl ?_
  obtain ⟨F2, hf2, he2⟩ := x24
  try dsimp only
  have e2 : F2.abs = G2 := by rw [he2, e1, G2_add]
  rw [e1, G2_add]
  refine Wl.val (Runs.nei0 ui_26 (by rfl)) rfl ?_
  refine Wl.val (Runs.pickf (by rfl) (by rfl)) rfl ?_
  refine Wl.val (Runs.move (by rfl)) rfl ?_
  refine Wl.wanted (d := 27) rfl rfl ?_
  refine Wl.val (Runs.move (by rfl)) rfl ?_
  refine Wl.wanted (d := 27) rfl rfl ?_
  refine Wl.call en_11 (by rfl) (sub' hf2 hG (rk := tn) (by rw [e2]; exact G2_tr.rank) (n := 100) (by rw [e2]; exact G2_lim) (by decide)) rfl (fun x29 => ?_)
  try dsimp only
  refine Wl.wanted (d := 27) rfl rfl ?_
  obtain ⟨F3, hf3, he3⟩ := x29
  try dsimp only
  have e3 : F3.abs = G3 := by rw [he3, e2, G3_sub]
  rw [e2, G3_sub]
  refine Wl.val (Runs.nei0 ui_26 (by rfl)) rfl ?_
  refine Wl.val (Runs.pickf (by rfl) (by rfl)) rfl ?_
  refine Wl.nil ?_
  refine At.env [(0, _), (1, _), (5, _), (31, _)] ⟨by rfl, by rfl, by rfl, by rfl, trivial⟩ ?_
  refine At.then_ ?_
  refine Wc.iff_ (by rfl) ?_
  refine Wc.skip ?_
  refine At.then_ ?_
  refine Wc.seq ?_
  refine Wc.seq ?_
  -- R4
  refine Wc.region ?_
  refine Wl.val (Runs.move (by rfl)) rfl ?_
  refine Wl.call en_12 (by rfl) (commit' hf3 hG (rk := tn) (N := 3) (m := 100) (by rw [e3]; exact G3_tr) (by rw [e3]; exact G3_lim) (by decide) (by rw [e3]; decide)) rfl (fun x34 => ?_)
  try dsimp only
  obtain ⟨⟨F4, ⟨a4, c4, x4⟩⟩, hf4, hq4, he4⟩ := x34
  try dsimp only
  dsimp only at hf4 hq4 he4
  rw [e3, D_commit] at hq4
  have e4 : F4.abs = D true 0 false 0 := by rw [he4, e3, D_commit]
  rw [e3, D_commit]
  try dsimp only at hq4
  subst hq4
  try dsimp only
  refine Wl.val (Runs.move (by rfl)) rfl ?_
  refine Wl.val (Runs.extract (by rfl) (by rfl)) rfl ?_
  refine Wl.val (Runs.extract (by rfl) (by rfl)) rfl ?_
  refine Wl.val (Runs.assign (by rfl)) rfl ?_
  refine Wl.val (Runs.assign (by rfl)) rfl ?_
  refine Wl.nil ?_
  refine At.env [(0, _), (1, _), (5, _), (6, _), (7, _)] ⟨by rfl, by rfl, by rfl, by rfl, by rfl, trivial⟩ ?_
  refine At.then_ ?_
  refine Wc.seq ?_
  -- R5
  refine Wc.region ?_
  refine Wl.val (Runs.move (by rfl)) rfl ?_
  refine Wl.val (Runs.nei0 ui_26 (by rfl)) rfl ?_
  refine Wl.val (Runs.move (by rfl)) rfl ?_
  refine Wl.wanted (d := 39) rfl rfl ?_
  refine Wl.val (Runs.move (by rfl)) rfl ?_
  refine Wl.wanted (d := 39) rfl rfl ?_
  refine Wl.val (Runs.lenSlice us_29 rfl (p := a4) (l := 1) (c := c4) (by rfl)) rfl ?_
  refine Wl.wanted (d := 39) rfl rfl ?_
  refine Wl.val (Runs.ne (by rfl) (by rfl)) rfl ?_
  refine Wl.val (Runs.pickf (by rfl) (by rfl)) rfl ?_
  refine Wl.nil ?_
  refine At.env [(0, _), (1, _), (5, _), (43, _)] ⟨by rfl, by rfl, by rfl, by rfl, trivial⟩ ?_
  refine At.then_ ?_
  refine Wc.iff_ (by rfl) ?_
  refine Wc.skip ?_
  refine At.then_ ?_
  refine Wc.seq ?_
  -- R7
  refine Wc.region ?_
  refine Wl.val (Runs.assign (by rfl)) rfl ?_
  refine Wl.val (Runs.assign (by rfl)) rfl ?_
  refine Wl.nil ?_
  refine At.env [(0, _), (1, _), (5, _), (8, _)] ⟨by rfl, by rfl, by rfl, by rfl, trivial⟩ ?_
  refine At.then_ ?_
  refine Wc.seq ?_
  refine Wc.seq ?_
  -- R8
  refine Wc.region ?_
  refine Wl.val (Runs.assign (by rfl)) rfl ?_
  refine Wl.nil ?_
  refine At.env [(0, _), (1, _), (5, _), (8, _), (10, _)] ⟨by rfl, by rfl, by rfl, by rfl, by rfl, trivial⟩ ?_
  refine At.then_ ?_
  refine Wc.block ?_
  refine Wc.loop (α := DSt) (fun y => [(0, .int .i64 b), (1, on.v), (5, .pointer (some ⟨F0.f, 0, none⟩)), (8, .int .i64 y.now), (10, .int .i64 (y.i : Int))]) (fun y => y.F.hp :: L) (fun y => y.i ≤ on.xs.length ∧ y.F.f = F0.f ∧ y.F.abs = D y.sy y.now y.t y.ca) (fun y => on.xs.length - y.i) ⟨0, true, 0, false, 0, F4⟩ ?_ ⟨(by rfl), (by rfl), (by rfl), (by rfl), (by rfl), trivial⟩ ?_ ?_
  · skip
    exact ⟨Nat.zero_le _, hf4, e4⟩
  · skip
    exact (fun _ h => Pick.sat (by refine Pick.cons (by repeat (first | exact Rem.here | apply Rem.there)) ?_; repeat (first | exact Pick.refl | refine Pick.drop ?_)) h)
  · skip
    rintro ⟨i, sy, now, t, cached, F⟩ ⟨hI, hf5, e5⟩
    dsimp only at hI hf5 e5
    try dsimp only
    refine Wc.seq ?_
    refine Wc.seq ?_
    -- R9
    refine Wc.region ?_
    refine Wl.val (Runs.move (by rfl)) rfl ?_
    refine Wl.val (Runs.move (by rfl)) rfl ?_
    refine Wl.val (Runs.lenSlice us_22 rfl (p := on.a) (l := on.xs.length) (c := on.cap) (by rfl)) rfl ?_
    refine Wl.val (Runs.lt (by rfl) (by rfl)) rfl ?_
    refine Wl.val (Runs.move (by rfl)) rfl ?_
    -- split R9.5
    first | refine Wl.splitd 48 (by rfl) (fun h1 => ?_) (fun h1 => ?_) | refine Wl.split 48 (by rfl) (fun h1 => ?_) (fun h1 => ?_)
    · skip
      refine Wl.wanted (d := 48) rfl rfl ?_
      refine Wl.val (Runs.move (by rfl)) rfl ?_
      refine Wl.wanted (d := 48) rfl rfl ?_
      refine Wl.val (Runs.lt (by rfl) (by rfl)) rfl ?_
      refine Wl.val (Runs.pickt (by rfl) (by rfl)) rfl ?_
      refine Wl.nil ?_
      refine At.env [(0, _), (1, _), (5, _), (8, _), (10, _), (51, _)] ⟨by rfl, by rfl, by rfl, by rfl, by rfl, by rfl, trivial⟩ ?_
      refine At.then_ ?_
      -- if 2
      first | refine Wc.ifd (by rfl) (fun h2 => ?_) (fun h2 => ?_) | refine Wc.ifb (by rfl) (fun h2 => ?_) (fun h2 => ?_)
      · skip
        refine Wc.skip ?_
        refine At.then_ ?_
        refine Wc.seq ?_
        refine Wc.block ?_
        refine Wc.seq ?_
        -- R11
        have hi1 : i < on.xs.length := by omega
        obtain ⟨ao, ha⟩ := hr.at hi1
        obtain ⟨c, hc⟩ : ∃ c, on.xs[i]? = some c := ⟨on.xs[i], List.getElem?_eq_getElem hi1⟩
        refine Wc.region ?_
        refine Wl.val (Runs.move (by rfl)) rfl ?_
        refine Wl.val (Runs.move (by rfl)) rfl ?_
        refine Wl.val (Runs.addw (by rfl) (by rfl)) rfl ?_
        refine Wl.call en_13 (by rfl) (place_neg (wrap_range _) (by decide)) rfl (fun x57 => ?_)
        try dsimp only
        refine Wl.val (Runs.add (by rfl) (by rfl) (by have h1 := Int.emod_nonneg (IntKind.i64.wrap (b + i)) (by decide : (1000 : Int) ≠ 0); have h2 := Int.emod_lt_of_pos (IntKind.i64.wrap (b + i)) (by decide : (0 : Int) < 1000); omega)) rfl ?_
        refine Wl.val (Runs.assign (by rfl)) rfl ?_
        refine Wl.nil ?_
        refine At.env [(0, _), (1, _), (5, _), (8, _), (10, _), (11, _)] ⟨by rfl, by rfl, by rfl, by rfl, by rfl, by rfl, trivial⟩ ?_
        refine At.then_ ?_
        refine Wc.seq ?_
        refine Wc.seq ?_
        -- R12
        generalize 1 + IntKind.i64.wrap (b + i) % 1000 = v
        refine Wc.region ?_
        refine Wl.val (Runs.move (by rfl)) rfl ?_
        refine Wl.val (Runs.move (by rfl)) rfl ?_
        refine Wl.val (Runs.move (by rfl)) rfl ?_
        refine Wl.val (Runs.indexA us_22 sz_4 (a := ao) (i := i) (by rw [← ha]; rfl) (by rfl) rfl hi1) rfl ?_
        refine Wl.val (Runs.loadA (e := encB) (s := on) (a := ao) (i := i) (z := c) (v := .bool c) (by rfl) fl_4 (hr.weak (fun _ h => Pick.sat (by repeat (first | exact Pick.refl | refine Pick.drop ?_)) h)) ha hc rfl) rfl ?_
        refine Wl.call en_14 (by rfl) (sync' hf5 hG) rfl (fun x64 => ?_)
        try dsimp only
        obtain ⟨F5, hf6, he8⟩ := x64
        try dsimp only
        have e8 : F5.abs = D c now t cached := by rw [he8, e5, D_sync]
        rw [e5, D_sync]
        refine Wl.val (Runs.nei0 ui_26 (by rfl)) rfl ?_
        refine Wl.val (Runs.move (by rfl)) rfl ?_
        refine Wl.wanted (d := 66) rfl rfl ?_
        refine Wl.val (Runs.move (by rfl)) rfl ?_
        refine Wl.wanted (d := 66) rfl rfl ?_
        refine Wl.val (Runs.move (by rfl)) rfl ?_
        refine Wl.wanted (d := 66) rfl rfl ?_
        refine Wl.call en_15 (by rfl) (attach' hf6 hG) rfl (fun x69 => ?_)
        try dsimp only
        refine Wl.wanted (d := 66) rfl rfl ?_
        obtain ⟨F6, hf9, he6⟩ := x69
        try dsimp only
        have e6 : F6.abs = DA c now t cached v := by rw [he6, e8, D_attach]
        rw [e8, D_attach]
        refine Wl.val (Runs.nei0 ui_26 (by rfl)) rfl ?_
        refine Wl.val (Runs.pickf (by rfl) (by rfl)) rfl ?_
        refine Wl.nil ?_
        refine At.env [(0, _), (1, _), (5, _), (8, _), (10, _), (11, _), (71, _)] ⟨by rfl, by rfl, by rfl, by rfl, by rfl, by rfl, by rfl, trivial⟩ ?_
        refine At.then_ ?_
        refine Wc.iff_ (by rfl) ?_
        refine Wc.skip ?_
        refine At.then_ ?_
        refine Wc.seq ?_
        -- R14
        cases c
        · skip
          refine Wc.region ?_
          refine Wl.val (Runs.move (by rfl)) rfl ?_
          refine Wl.call en_12 (by rfl) (commit' hf9 hG (rk := tn) (N := 3) (m := 100) (by rw [e6]; exact DA_tr _ _ _ _ _) (by rw [e6]; exact DA_lim _ _ _ _ _) (by decide) (by rw [e6]; exact Nat.le_of_ble_eq_true rfl)) rfl (fun x74 => ?_)
          try dsimp only
          obtain ⟨⟨F7, ⟨a7, c7, x7⟩⟩, hf7, hq7, he7⟩ := x74
          try dsimp only
          dsimp only at hf7 hq7 he7
          rw [e6, DA_off] at hq7
          have e7 : F7.abs = D false v false 0 := by rw [he7, e6, DA_off]
          rw [e6, DA_off]
          try dsimp only at hq7
          subst hq7
          try dsimp only
          refine Wl.val (Runs.move (by rfl)) rfl ?_
          refine Wl.val (Runs.extract (by rfl) (by rfl)) rfl ?_
          refine Wl.val (Runs.extract (by rfl) (by rfl)) rfl ?_
          refine Wl.val (Runs.assign (by rfl)) rfl ?_
          refine Wl.val (Runs.assign (by rfl)) rfl ?_
          refine Wl.nil ?_
          refine At.env [(0, _), (1, _), (5, _), (8, _), (10, _), (11, _), (12, _), (13, _)] ⟨by rfl, by rfl, by rfl, by rfl, by rfl, by rfl, by rfl, by rfl, trivial⟩ ?_
          refine At.then_ ?_
          refine Wc.seq ?_
          refine Wc.seq ?_
          -- R15
          refine Wc.region ?_
          refine Wl.val (Runs.move (by rfl)) rfl ?_
          refine Wl.val (Runs.move (by rfl)) rfl ?_
          refine Wl.val (Runs.indexA us_22 sz_4 (a := ao) (i := i) (by rw [← ha]; rfl) (by rfl) rfl hi1) rfl ?_
          refine Wl.val (Runs.loadA (e := encB) (s := on) (a := ao) (i := i) (z := false) (v := .bool false) (by rfl) fl_4 (hr.weak (fun _ h => Pick.sat (by repeat (first | exact Pick.refl | refine Pick.drop ?_)) h)) ha hc rfl) rfl ?_
          refine Wl.nil ?_
          refine At.env [(0, _), (1, _), (5, _), (8, _), (10, _), (11, _), (12, _), (13, _), (80, _)] ⟨by rfl, by rfl, by rfl, by rfl, by rfl, by rfl, by rfl, by rfl, by rfl, trivial⟩ ?_
          refine At.then_ ?_
          -- if 4
          refine Wc.iff_ (by rfl) ?_
          refine Wc.seq ?_
          -- R17
          refine Wc.region ?_
          refine Wl.val (Runs.move (by rfl)) rfl ?_
          refine Wl.val (Runs.assign (by rfl)) rfl ?_
          refine Wl.nil ?_
          refine At.env [(0, _), (1, _), (5, _), (8, _), (10, _), (12, _), (13, _)] ⟨by rfl, by rfl, by rfl, by rfl, by rfl, by rfl, by rfl, trivial⟩ ?_
          refine At.then_ ?_
          -- R18
          refine Wc.region ?_
          refine Wl.val (Runs.assign (by rfl)) rfl ?_
          refine Wl.nil ?_
          refine At.env [(0, _), (1, _), (5, _), (8, _), (9, _), (10, _), (12, _), (13, _)] ⟨by rfl, by rfl, by rfl, by rfl, by rfl, by rfl, by rfl, by rfl, trivial⟩ ?_
          refine At.then_ ?_
          refine Wc.seq ?_
          -- R19
          refine Wc.region ?_
          refine Wl.val (Runs.move (by rfl)) rfl ?_
          refine Wl.val (Runs.nei0 ui_26 (by rfl)) rfl ?_
          refine Wl.val (Runs.move (by rfl)) rfl ?_
          refine Wl.wanted (d := 85) rfl rfl ?_
          refine Wl.val (Runs.move (by rfl)) rfl ?_
          refine Wl.wanted (d := 85) rfl rfl ?_
          refine Wl.val (Runs.lenSlice us_29 rfl (p := a7) (l := 1) (c := c7) (by rfl)) rfl ?_
          refine Wl.wanted (d := 85) rfl rfl ?_
          refine Wl.val (Runs.eq (by rfl) (by rfl)) rfl ?_
          refine Wl.wanted (d := 85) rfl rfl ?_
          refine Wl.val (Runs.move (by rfl)) rfl ?_
          refine Wl.wanted (d := 85) rfl rfl ?_
          refine Wl.val (Runs.move (by rfl)) rfl ?_
          refine Wl.wanted (d := 85) rfl rfl ?_
          refine Wl.val (Runs.indexA us_22 sz_4 (a := ao) (i := i) (by rw [← ha]; rfl) (by rfl) rfl hi1) rfl ?_
          refine Wl.wanted (d := 85) rfl rfl ?_
          refine Wl.val (Runs.loadA (e := encB) (s := on) (a := ao) (i := i) (z := false) (v := .bool false) (by rfl) fl_4 (hr.weak (fun _ h => Pick.sat (by repeat (first | exact Pick.refl | refine Pick.drop ?_)) h)) ha hc rfl) rfl ?_
          refine Wl.wanted (d := 85) rfl rfl ?_
          refine Wl.val (Runs.eqb ub_4 (by rfl) (by rfl)) rfl ?_
          refine Wl.val (Runs.pickf (by rfl) (by rfl)) rfl ?_
          refine Wl.val (Runs.move (by rfl)) rfl ?_
          refine Wl.wanted (d := 95) rfl rfl ?_
          refine Wl.val (Runs.move (by rfl)) rfl ?_
          refine Wl.wanted (d := 95) rfl rfl ?_
          refine Wl.call en_16 (by rfl) (cu' hf7 .here (n := 100) (by rw [e7]; exact D_lim _ _ _ _) (by decide)) rfl (fun r1 => ?_)
          try dsimp only
          refine Wl.wanted (d := 95) rfl rfl ?_
          have hr1 : r1.1.bu = v := (congrArg PSt.bu r1.2).trans (by rw [e7, D_cur]; rfl)
          refine Wl.val (Runs.fieldV (v := .int .i64 r1.1.bu) (by rfl) (fun _ => by kernel_rfl)) rfl ?_
          refine Wl.wanted (d := 95) rfl rfl ?_
          rw [hr1]
          refine Wl.val (Runs.move (by rfl)) rfl ?_
          refine Wl.wanted (d := 95) rfl rfl ?_
          refine Wl.val (Runs.neSame (by rfl) (by rfl)) rfl ?_
          refine Wl.val (Runs.pickf (by rfl) (by rfl)) rfl ?_
          refine Wl.val (Runs.move (by rfl)) rfl ?_
          refine Wl.wanted (d := 102) rfl rfl ?_
          refine Wl.val (Runs.move (by rfl)) rfl ?_
          refine Wl.wanted (d := 102) rfl rfl ?_
          refine Wl.call en_17 (by rfl) (ca' hf7 (by repeat (first | exact Inc.here | apply Inc.there)) (n := 100) (by rw [e7]; exact D_lim _ _ _ _) (by decide)) rfl (fun r2 => ?_)
          try dsimp only
          refine Wl.wanted (d := 102) rfl rfl ?_
          have hr2 : r2.1.bu = 0 := (congrArg PSt.bu r2.2).trans (by rw [e7, D_ca]; rfl)
          refine Wl.val (Runs.fieldV (v := .int .i64 r2.1.bu) (by rfl) (fun _ => by kernel_rfl)) rfl ?_
          refine Wl.wanted (d := 102) rfl rfl ?_
          rw [hr2]
          refine Wl.val (Runs.move (by rfl)) rfl ?_
          refine Wl.wanted (d := 102) rfl rfl ?_
          refine Wl.val (Runs.neSame (by rfl) (by rfl)) rfl ?_
          refine Wl.val (Runs.pickf (by rfl) (by rfl)) rfl ?_
          refine Wl.nil ?_
          refine At.env [(0, _), (1, _), (5, _), (8, _), (10, _), (108, _)] ⟨by rfl, by rfl, by rfl, by rfl, by rfl, by rfl, trivial⟩ ?_
          refine At.then_ ?_
          refine Wc.iff_ (by rfl) ?_
          refine Wc.skip ?_
          refine At.blockNormal ?_
          refine At.then_ ?_
          -- R10
          refine Wc.region ?_
          refine Wl.val (Runs.move (by rfl)) rfl ?_
          refine Wl.val (Runs.add (by rfl) (by rfl) (by omega)) rfl ?_
          refine Wl.val (Runs.assign (by rfl)) rfl ?_
          refine Wl.nil ?_
          refine At.env [(0, _), (1, _), (5, _), (8, _), (10, _)] ⟨by rfl, by rfl, by rfl, by rfl, by rfl, trivial⟩ ?_
          exact At.again (x := (⟨i, sy, now, t, cached, F⟩ : DSt)) (⟨i + 1, false, v, false, 0, F7⟩ : DSt) ⟨by show i + 1 ≤ _; omega, hf7, e7⟩ (by show on.xs.length - (i + 1) < on.xs.length - i; omega) ⟨by rfl, by rfl, by rfl, by rfl, by rfl, trivial⟩ (fun _ h => Pick.sat (by refine Pick.cons (by repeat (first | exact Rem.here | apply Rem.there)) ?_; repeat (first | exact Pick.refl | refine Pick.drop ?_)) h)
        · skip
          refine Wc.region ?_
          refine Wl.val (Runs.move (by rfl)) rfl ?_
          refine Wl.call en_12 (by rfl) (commit' hf9 hG (rk := tn) (N := 3) (m := 100) (by rw [e6]; exact DA_tr _ _ _ _ _) (by rw [e6]; exact DA_lim _ _ _ _ _) (by decide) (by rw [e6]; exact Nat.le_of_ble_eq_true rfl)) rfl (fun x74 => ?_)
          try dsimp only
          obtain ⟨⟨F7, ⟨a7, c7, x7⟩⟩, hf7, hq7, he7⟩ := x74
          try dsimp only
          dsimp only at hf7 hq7 he7
          rw [e6, DA_on] at hq7
          have e7 : F7.abs = D true now true v := by rw [he7, e6, DA_on]
          rw [e6, DA_on]
          try dsimp only at hq7
          subst hq7
          try dsimp only
          refine Wl.val (Runs.move (by rfl)) rfl ?_
          refine Wl.val (Runs.extract (by rfl) (by rfl)) rfl ?_
          refine Wl.val (Runs.extract (by rfl) (by rfl)) rfl ?_
          refine Wl.val (Runs.assign (by rfl)) rfl ?_
          refine Wl.val (Runs.assign (by rfl)) rfl ?_
          refine Wl.nil ?_
          refine At.env [(0, _), (1, _), (5, _), (8, _), (10, _), (11, _), (12, _), (13, _)] ⟨by rfl, by rfl, by rfl, by rfl, by rfl, by rfl, by rfl, by rfl, trivial⟩ ?_
          refine At.then_ ?_
          refine Wc.seq ?_
          refine Wc.seq ?_
          -- R15
          refine Wc.region ?_
          refine Wl.val (Runs.move (by rfl)) rfl ?_
          refine Wl.val (Runs.move (by rfl)) rfl ?_
          refine Wl.val (Runs.indexA us_22 sz_4 (a := ao) (i := i) (by rw [← ha]; rfl) (by rfl) rfl hi1) rfl ?_
          refine Wl.val (Runs.loadA (e := encB) (s := on) (a := ao) (i := i) (z := true) (v := .bool true) (by rfl) fl_4 (hr.weak (fun _ h => Pick.sat (by repeat (first | exact Pick.refl | refine Pick.drop ?_)) h)) ha hc rfl) rfl ?_
          refine Wl.nil ?_
          refine At.env [(0, _), (1, _), (5, _), (8, _), (10, _), (11, _), (12, _), (13, _), (80, _)] ⟨by rfl, by rfl, by rfl, by rfl, by rfl, by rfl, by rfl, by rfl, by rfl, trivial⟩ ?_
          refine At.then_ ?_
          -- if 4
          refine Wc.ift (by rfl) ?_
          -- R16
          refine Wc.region ?_
          refine Wl.val (Runs.move (by rfl)) rfl ?_
          refine Wl.val (Runs.assign (by rfl)) rfl ?_
          refine Wl.nil ?_
          refine At.env [(0, _), (1, _), (5, _), (8, _), (9, _), (10, _), (12, _), (13, _)] ⟨by rfl, by rfl, by rfl, by rfl, by rfl, by rfl, by rfl, by rfl, trivial⟩ ?_
          refine At.then_ ?_
          refine Wc.seq ?_
          -- R19
          refine Wc.region ?_
          refine Wl.val (Runs.move (by rfl)) rfl ?_
          refine Wl.val (Runs.nei0 ui_26 (by rfl)) rfl ?_
          refine Wl.val (Runs.move (by rfl)) rfl ?_
          refine Wl.wanted (d := 85) rfl rfl ?_
          refine Wl.val (Runs.move (by rfl)) rfl ?_
          refine Wl.wanted (d := 85) rfl rfl ?_
          refine Wl.val (Runs.lenSlice us_29 rfl (p := a7) (l := 0) (c := c7) (by rfl)) rfl ?_
          refine Wl.wanted (d := 85) rfl rfl ?_
          refine Wl.val (Runs.eq (by rfl) (by rfl)) rfl ?_
          refine Wl.wanted (d := 85) rfl rfl ?_
          refine Wl.val (Runs.move (by rfl)) rfl ?_
          refine Wl.wanted (d := 85) rfl rfl ?_
          refine Wl.val (Runs.move (by rfl)) rfl ?_
          refine Wl.wanted (d := 85) rfl rfl ?_
          refine Wl.val (Runs.indexA us_22 sz_4 (a := ao) (i := i) (by rw [← ha]; rfl) (by rfl) rfl hi1) rfl ?_
          refine Wl.wanted (d := 85) rfl rfl ?_
          refine Wl.val (Runs.loadA (e := encB) (s := on) (a := ao) (i := i) (z := true) (v := .bool true) (by rfl) fl_4 (hr.weak (fun _ h => Pick.sat (by repeat (first | exact Pick.refl | refine Pick.drop ?_)) h)) ha hc rfl) rfl ?_
          refine Wl.wanted (d := 85) rfl rfl ?_
          refine Wl.val (Runs.eqb ub_4 (by rfl) (by rfl)) rfl ?_
          refine Wl.val (Runs.pickf (by rfl) (by rfl)) rfl ?_
          refine Wl.val (Runs.move (by rfl)) rfl ?_
          refine Wl.wanted (d := 95) rfl rfl ?_
          refine Wl.val (Runs.move (by rfl)) rfl ?_
          refine Wl.wanted (d := 95) rfl rfl ?_
          refine Wl.call en_16 (by rfl) (cu' hf7 .here (n := 100) (by rw [e7]; exact D_lim _ _ _ _) (by decide)) rfl (fun r1 => ?_)
          try dsimp only
          refine Wl.wanted (d := 95) rfl rfl ?_
          have hr1 : r1.1.bu = now := (congrArg PSt.bu r1.2).trans (by rw [e7, D_cur]; rfl)
          refine Wl.val (Runs.fieldV (v := .int .i64 r1.1.bu) (by rfl) (fun _ => by kernel_rfl)) rfl ?_
          refine Wl.wanted (d := 95) rfl rfl ?_
          rw [hr1]
          refine Wl.val (Runs.move (by rfl)) rfl ?_
          refine Wl.wanted (d := 95) rfl rfl ?_
          refine Wl.val (Runs.neSame (by rfl) (by rfl)) rfl ?_
          refine Wl.val (Runs.pickf (by rfl) (by rfl)) rfl ?_
          refine Wl.val (Runs.move (by rfl)) rfl ?_
          refine Wl.wanted (d := 102) rfl rfl ?_
          refine Wl.val (Runs.move (by rfl)) rfl ?_
          refine Wl.wanted (d := 102) rfl rfl ?_
          refine Wl.call en_17 (by rfl) (ca' hf7 (by repeat (first | exact Inc.here | apply Inc.there)) (n := 100) (by rw [e7]; exact D_lim _ _ _ _) (by decide)) rfl (fun r2 => ?_)
          try dsimp only
          refine Wl.wanted (d := 102) rfl rfl ?_
          have hr2 : r2.1.bu = v := (congrArg PSt.bu r2.2).trans (by rw [e7, D_ca]; rfl)
          refine Wl.val (Runs.fieldV (v := .int .i64 r2.1.bu) (by rfl) (fun _ => by kernel_rfl)) rfl ?_
          refine Wl.wanted (d := 102) rfl rfl ?_
          rw [hr2]
          refine Wl.val (Runs.move (by rfl)) rfl ?_
          refine Wl.wanted (d := 102) rfl rfl ?_
          refine Wl.val (Runs.neSame (by rfl) (by rfl)) rfl ?_
          refine Wl.val (Runs.pickf (by rfl) (by rfl)) rfl ?_
          refine Wl.nil ?_
          refine At.env [(0, _), (1, _), (5, _), (8, _), (10, _), (108, _)] ⟨by rfl, by rfl, by rfl, by rfl, by rfl, by rfl, trivial⟩ ?_
          refine At.then_ ?_
          refine Wc.iff_ (by rfl) ?_
          refine Wc.skip ?_
          refine At.blockNormal ?_
          refine At.then_ ?_
          -- R10
          refine Wc.region ?_
          refine Wl.val (Runs.move (by rfl)) rfl ?_
          refine Wl.val (Runs.add (by rfl) (by rfl) (by omega)) rfl ?_
          refine Wl.val (Runs.assign (by rfl)) rfl ?_
          refine Wl.nil ?_
          refine At.env [(0, _), (1, _), (5, _), (8, _), (10, _)] ⟨by rfl, by rfl, by rfl, by rfl, by rfl, trivial⟩ ?_
          exact At.again (x := (⟨i, sy, now, t, cached, F⟩ : DSt)) (⟨i + 1, true, now, true, v, F7⟩ : DSt) ⟨by show i + 1 ≤ _; omega, hf7, e7⟩ (by show on.xs.length - (i + 1) < on.xs.length - i; omega) ⟨by rfl, by rfl, by rfl, by rfl, by rfl, trivial⟩ (fun _ h => Pick.sat (by refine Pick.cons (by repeat (first | exact Rem.here | apply Rem.there)) ?_; repeat (first | exact Pick.refl | refine Pick.drop ?_)) h)
      · skip
        refine Wc.exit ?_
        repeat (first | refine At.thenExit ?_ | refine At.blockOther rfl ?_)
        refine At.blockOut ?_
        refine At.then_ ?_
        refine Wc.seq ?_
        -- R21
        refine Wc.region ?_
        refine Wl.call en_18 (by rfl) (awake_spec hG.there) rfl (fun x109 => ?_)
        try dsimp only
        refine Wl.val (Runs.assign (by rfl)) rfl ?_
        refine Wl.nil ?_
        refine At.env [(4, _)] ⟨by rfl, trivial⟩ ?_
        refine At.then_ ?_
        refine Wc.ret ?_
        repeat (first | refine At.thenRet ?_ | refine At.blockRet ?_)
        -- ret 0
        exact At.ret1 () rfl (by rfl) (fun _ h => Pick.sat (by repeat (first | exact Pick.refl | refine Pick.drop ?_)) h)
    · skip
      refine Wl.unwanted (d := 48) rfl rfl rfl rfl ?_
      refine Wl.unwanted (d := 48) rfl rfl rfl rfl ?_
      refine Wl.val (Runs.pickf (by rfl) (by rfl)) rfl ?_
      refine Wl.nil ?_
      refine At.env [(0, _), (1, _), (5, _), (8, _), (10, _), (51, _)] ⟨by rfl, by rfl, by rfl, by rfl, by rfl, by rfl, trivial⟩ ?_
      refine At.then_ ?_
      refine Wc.iff_ (by rfl) ?_
      refine Wc.exit ?_
      repeat (first | refine At.thenExit ?_ | refine At.blockOther rfl ?_)
      refine At.blockOut ?_
      refine At.then_ ?_
      refine Wc.seq ?_
      -- R21
      refine Wc.region ?_
      refine Wl.call en_18 (by rfl) (awake_spec hG.there) rfl (fun x109 => ?_)
      try dsimp only
      refine Wl.val (Runs.assign (by rfl)) rfl ?_
      refine Wl.nil ?_
      refine At.env [(4, _)] ⟨by rfl, trivial⟩ ?_
      refine At.then_ ?_
      refine Wc.ret ?_
      repeat (first | refine At.thenRet ?_ | refine At.blockRet ?_)
      -- ret 1
      exact At.ret1 () rfl (by rfl) (fun _ h => Pick.sat (by repeat (first | exact Pick.refl | refine Pick.drop ?_)) h)
end Go.Proofs.Sl

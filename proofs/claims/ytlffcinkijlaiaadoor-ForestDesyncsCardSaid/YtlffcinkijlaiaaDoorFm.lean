/- Printed by a program of this session out of the translation (wip/tools/gen.py): walks. -/
import Derived.Test.YtlffcinkijlaiaaDoorFl
import Derived.Test.YtlffcinkijlaiaaDoorSlSmall
import Derived.Test.YtlffcinkijlaiaaDoorProg
import Derived.KernelRfl
namespace Go.Proofs.Sl
open Go
set_option linter.unusedVariables false
set_option linter.unusedSimpArgs false
set_option maxRecDepth 20000
theorem up_23 : ∀ w, (underlying 23).run Tryd.prog w = .ok (.pointer 78) w := fun _ => by kernel_rfl
theorem en_9 : Enters Tryd.prog 9 := fun _ _ => by kernel_rfl
theorem en_10 : Enters Tryd.prog 10 := fun _ _ => by kernel_rfl
theorem en_11 : Enters Tryd.prog 11 := fun _ _ => by kernel_rfl
theorem en_67 : Enters Tryd.prog 67 := fun _ _ => by kernel_rfl
theorem en_12 : Enters Tryd.prog 12 := fun _ _ => by kernel_rfl
theorem en_39 : Enters Tryd.prog 39 := fun _ _ => by kernel_rfl

theorem awake_spec {L : List HP} {p : Nat → Addr} (hG : Gl L p) : ∀ w, Sat w (L) → Calls Tryd.prog 18 #[] w (Ret (α := Unit) (fun _ => .bool true) (fun _ => L)) := by
  refine Spec.enter (n := 55) (vs := []) Tryd.func18 rfl rfl rfl ?_
  dsimp only [enum, Nat.reduceAdd]
  refine Wc.seq ?_
  -- R0
  refine Wc.region ?_
  refine Wl.val (Runs.assign (by rfl)) rfl ?_
  refine Wl.nil ?_
  refine At.env [] trivial ?_
  refine At.then_ ?_
  refine Wc.seq ?_
  -- R1
  refine Wc.region ?_
  refine Wl.call en_9 (by rfl) (new_spec) rfl (fun x6 => ?_)
  try dsimp only
  obtain ⟨F0, e0⟩ := x6
  try dsimp only
  refine Wl.val (Runs.assign (by rfl)) rfl ?_
  refine Wl.nil ?_
  refine At.env [(1, _)] ⟨by rfl, trivial⟩ ?_
  refine At.then_ ?_
  refine Wc.seq ?_
  refine Wc.seq ?_
  -- R2
  refine Wc.region ?_
  refine Wl.val (Runs.move (by rfl)) rfl ?_
  refine Wl.val (Runs.eqp1 up_23 (by rfl)) rfl ?_
  refine Wl.val (Runs.move (by rfl)) rfl ?_
  refine Wl.wanted (d := 9) rfl rfl ?_
  refine Wl.val (Runs.move (by rfl)) rfl ?_
  refine Wl.wanted (d := 9) rfl rfl ?_
  refine Wl.call en_10 (by rfl) (add' rfl hG) rfl (fun x11 => ?_)
  try dsimp only
  refine Wl.wanted (d := 9) rfl rfl ?_
  obtain ⟨F1, hf1, he1⟩ := x11
  try dsimp only
  have e1 : F1.abs = G1 := by rw [he1, e0, G1_add]
  rw [e0, G1_add]
  refine Wl.val (Runs.nei0 ui_26 (by rfl)) rfl ?_
  refine Wl.val (Runs.pickf (by rfl) (by rfl)) rfl ?_
  refine Wl.val (Runs.move (by rfl)) rfl ?_
  refine Wl.wanted (d := 14) rfl rfl ?_
  refine Wl.val (Runs.move (by rfl)) rfl ?_
  refine Wl.wanted (d := 14) rfl rfl ?_
  refine Wl.call en_10 (by rfl) (add' hf1 hG) rfl (fun x16 => ?_)
  try dsimp only
  refine Wl.wanted (d := 14) rfl rfl ?_
  obtain ⟨F2, hf2, he2⟩ := x16
  try dsimp only
  have e2 : F2.abs = G2 := by rw [he2, e1, G2_add]
  rw [e1, G2_add]
  refine Wl.val (Runs.nei0 ui_26 (by rfl)) rfl ?_
  refine Wl.val (Runs.pickf (by rfl) (by rfl)) rfl ?_
  refine Wl.val (Runs.move (by rfl)) rfl ?_
  refine Wl.wanted (d := 19) rfl rfl ?_
  refine Wl.val (Runs.move (by rfl)) rfl ?_
  refine Wl.wanted (d := 19) rfl rfl ?_
  refine Wl.call en_11 (by rfl) (sub' hf2 hG (rk := tn) (by rw [e2]; exact G2_tr.rank) (n := 100) (by rw [e2]; exact G2_lim) (by decide)) rfl (fun x21 => ?_)
  try dsimp only
  refine Wl.wanted (d := 19) rfl rfl ?_
  obtain ⟨F3, hf3, he3⟩ := x21
  try dsimp only
  have e3 : F3.abs = G3 := by rw [he3, e2, G3_sub]
  rw [e2, G3_sub]
  refine Wl.val (Runs.nei0 ui_26 (by rfl)) rfl ?_
  refine Wl.val (Runs.pickf (by rfl) (by rfl)) rfl ?_
  refine Wl.val (Runs.move (by rfl)) rfl ?_
  refine Wl.wanted (d := 24) rfl rfl ?_
  refine Wl.val (Runs.move (by rfl)) rfl ?_
  refine Wl.wanted (d := 24) rfl rfl ?_
  refine Wl.call en_67 (by rfl) (frame' hf3 hG (n := 100) (by rw [e3]; exact G3_lim) (by decide)) rfl (fun x26 => ?_)
  try dsimp only
  refine Wl.wanted (d := 24) rfl rfl ?_
  obtain ⟨F4, hf4, he4⟩ := x26
  try dsimp only
  have e4 : F4.abs = W4 := by rw [he4, e3, W4_frame]
  rw [e3, W4_frame]
  refine Wl.val (Runs.nei0 ui_26 (by rfl)) rfl ?_
  refine Wl.val (Runs.pickf (by rfl) (by rfl)) rfl ?_
  refine Wl.nil ?_
  refine At.env [(1, _), (28, _)] ⟨by rfl, by rfl, trivial⟩ ?_
  refine At.then_ ?_
  refine Wc.iff_ (by rfl) ?_
  refine Wc.skip ?_
  refine At.then_ ?_
  refine Wc.seq ?_
  -- R4
  refine Wc.region ?_
  refine Wl.val (Runs.move (by rfl)) rfl ?_
  refine Wl.call en_12 (by rfl) (commit' hf4 hG (rk := tn) (N := 3) (m := 100) (by rw [e4]; exact W4_tr) (by rw [e4]; exact W4_lim) (by decide) (by rw [e4]; decide)) rfl (fun x31 => ?_)
  try dsimp only
  obtain ⟨⟨F5, ⟨a5, c5, x5⟩⟩, hf5, hq5, he5⟩ := x31
  try dsimp only
  dsimp only at hf5 hq5 he5
  rw [e4, W5_commit] at hq5
  have e5 : F5.abs = W5 := by rw [he5, e4, W5_commit]
  rw [e4, W5_commit]
  dsimp only at hq5
  subst hq5
  try dsimp only
  refine Wl.val (Runs.move (by rfl)) rfl ?_
  refine Wl.val (Runs.extract (by rfl) (by rfl)) rfl ?_
  refine Wl.val (Runs.extract (by rfl) (by rfl)) rfl ?_
  refine Wl.val (Runs.assign (by rfl)) rfl ?_
  refine Wl.val (Runs.assign (by rfl)) rfl ?_
  refine Wl.nil ?_
  refine At.env [(1, _), (2, _), (3, _)] ⟨by rfl, by rfl, by rfl, trivial⟩ ?_
  refine At.then_ ?_
  refine Wc.seq ?_
  -- R5
  refine Wc.region ?_
  refine Wl.val (Runs.move (by rfl)) rfl ?_
  refine Wl.call en_12 (by rfl) (commit' hf5 hG.there (rk := tn) (N := 3) (m := 100) (by rw [e5]; exact W5_tr) (by rw [e5]; exact W5_lim) (by decide) (by rw [e5]; decide)) rfl (fun x36 => ?_)
  try dsimp only
  obtain ⟨⟨F6, ⟨a6, c6, x6⟩⟩, hf6, hq6, h6⟩ := x36
  try dsimp only
  dsimp only at hf6 hq6 h6
  rw [e5, W6_commit.2] at hq6
  rw [e5, W6_commit.1]
  subst hq6
  try dsimp only
  refine Wl.val (Runs.move (by rfl)) rfl ?_
  refine Wl.val (Runs.extract (by rfl) (by rfl)) rfl ?_
  refine Wl.val (Runs.extract (by rfl) (by rfl)) rfl ?_
  refine Wl.val (Runs.assign (by rfl)) rfl ?_
  refine Wl.val (Runs.assign (by rfl)) rfl ?_
  refine Wl.nil ?_
  refine At.env [(2, _), (3, _), (4, _), (5, _)] ⟨by rfl, by rfl, by rfl, by rfl, trivial⟩ ?_
  refine At.then_ ?_
  refine Wc.seq ?_
  -- R6
  refine Wc.region ?_
  refine Wl.val (Runs.move (by rfl)) rfl ?_
  refine Wl.val (Runs.eqi0 ui_26 (by rfl)) rfl ?_
  refine Wl.val (Runs.move (by rfl)) rfl ?_
  refine Wl.wanted (d := 41) rfl rfl ?_
  refine Wl.val (Runs.move (by rfl)) rfl ?_
  refine Wl.wanted (d := 41) rfl rfl ?_
  refine Wl.val (Runs.eqi0 ui_26 (by rfl)) rfl ?_
  refine Wl.val (Runs.pickt (by rfl) (by rfl)) rfl ?_
  refine Wl.val (Runs.move (by rfl)) rfl ?_
  refine Wl.wanted (d := 45) rfl rfl ?_
  refine Wl.val (Runs.move (by rfl)) rfl ?_
  refine Wl.wanted (d := 45) rfl rfl ?_
  refine Wl.val (Runs.lenSlice us_29 rfl (p := a5) (l := 0) (c := c5) (by rfl)) rfl ?_
  refine Wl.wanted (d := 45) rfl rfl ?_
  refine Wl.val (Runs.eq (by rfl) (by rfl)) rfl ?_
  refine Wl.val (Runs.pickt (by rfl) (by rfl)) rfl ?_
  refine Wl.val (Runs.move (by rfl)) rfl ?_
  refine Wl.wanted (d := 50) rfl rfl ?_
  refine Wl.val (Runs.move (by rfl)) rfl ?_
  refine Wl.wanted (d := 50) rfl rfl ?_
  refine Wl.valX (RunsX.buildSlice (U := 3) (cs := [.int .i64 1, .int .i64 2]) (by rfl) (fun _ => by kernel_rfl)) rfl (fun b52 => ?_)
  try dsimp only
  refine Wl.wanted (d := 50) rfl rfl ?_
  refine Wl.call en_39 (by rfl) (fun w hw => same_spec (s := ⟨a6, c6, [1, 2]⟩) (r := ⟨some ⟨b52, 0, none⟩, 2, [1, 2]⟩) (Inc.own (by repeat (first | exact Inc.here | apply Inc.there)) ⟨w, hw⟩) (.inr ⟨b52, 0, rfl, fun w hw j v hv => cell_at hw.get (by simpa [Enc.flat, encI] using hv)⟩) (by simp) w hw) rfl (fun x53 => ?_)
  try dsimp only
  refine Wl.val (Runs.pickt (by rfl) (by rfl)) rfl ?_
  refine Wl.val (Runs.assign (by rfl)) rfl ?_
  refine Wl.nil ?_
  refine At.env [(0, _)] ⟨by rfl, trivial⟩ ?_
  refine At.then_ ?_
  refine Wc.ret ?_
  repeat (first | refine At.thenRet ?_ | refine At.blockRet ?_)
  -- ret 0
  exact At.ret1 () rfl (by rfl) (fun _ h => Pick.sat (by repeat (first | exact Pick.refl | refine Pick.drop ?_)) h)
end Go.Proofs.Sl

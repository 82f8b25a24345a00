/- Printed by a program of this session out of the translation (wip/tools/gen.py): walks. -/
import Derived.Test.YtlffcinkijlaiaaDoorSlForest
import Derived.Test.YtlffcinkijlaiaaDoorProg
import Derived.KernelRfl
namespace Go.Proofs.Sl
open Go
set_option linter.unusedVariables false
set_option linter.unusedSimpArgs false
set_option maxRecDepth 20000
theorem fa_78_0 : ∀ b o w, (Instr.fieldAt 78 (.pointer (some ⟨b, o, none⟩)) 0).run Tryd.prog w = .ok (.pointer (some ⟨b, o + 0, none⟩)) w := fun _ _ _ => by kernel_rfl
theorem fl_76 : Flat Tryd.prog 76 := fun _ => by kernel_rfl
theorem mp_76 : MapT Tryd.prog 76 3 79 (.pointer none) := ⟨fun _ => by kernel_rfl, fun _ => by kernel_rfl, fun _ => by kernel_rfl⟩
theorem up_79 : ∀ w, (underlying 79).run Tryd.prog w = .ok (.pointer 82) w := fun _ => by kernel_rfl
theorem fa_82_1 : ∀ b o w, (Instr.fieldAt 82 (.pointer (some ⟨b, o, none⟩)) 1).run Tryd.prog w = .ok (.pointer (some ⟨b, o + 1, none⟩)) w := fun _ _ _ => by kernel_rfl
theorem fl_3 : Flat Tryd.prog 3 := fun _ => by kernel_rfl

theorem tmod_bd (v : Int) {n : Int} (hn : 0 < n) : -n < v.tmod n ∧ v.tmod n < n := by
  constructor
  · have := Int.lt_tmod_of_pos v hn; omega
  · exact Int.tmod_lt_of_pos v hn
theorem tmod_neg {v n : Int} (hn : 0 < n) (h : v.tmod n < 0) : v.tmod n + n = v % n := by
  rw [Int.tmod_eq_emod] at *
  split at h <;> rename_i hh
  · have := Int.emod_nonneg v (by omega : n ≠ 0); omega
  · rw [if_neg hh]; omega
theorem tmod_pos {v n : Int} (hn : 0 < n) (h : ¬ v.tmod n < 0) : v.tmod n = v % n := by
  rw [Int.tmod_eq_emod] at *
  split at h <;> rename_i hh
  · rw [if_pos hh]; omega
  · have := Int.emod_lt_of_pos v hn; omega

theorem place_neg {L : List HP} {v n : Int} (hv : -9223372036854775808 ≤ v ∧ v ≤ 9223372036854775807) (hn : 0 < n ∧ n ≤ 4611686018427387904) : ∀ w, Sat w (L) → Calls Tryd.prog 13 #[.int .i64 v, .int .i64 n] w (Ret (α := Unit) (fun _ => .int .i64 (v % n)) (fun _ => L)) := by
  refine Spec.enter (n := 15) (vs := [.int .i64 v, .int .i64 n]) Tryd.func13 rfl rfl rfl ?_
  dsimp only [enum, Nat.reduceAdd]
  refine Wc.seq ?_
  -- R0
  refine Wc.region ?_
  refine Wl.val (Runs.assign (by rfl)) rfl ?_
  refine Wl.nil ?_
  refine At.env [(0, _), (1, _)] ⟨by rfl, by rfl, trivial⟩ ?_
  refine At.then_ ?_
  refine Wc.seq ?_
  -- R1
  refine Wc.region ?_
  refine Wl.val (Runs.move (by rfl)) rfl ?_
  refine Wl.val (Runs.move (by rfl)) rfl ?_
  refine Wl.val (Runs.rem (by rfl) (by rfl) (by omega)) rfl ?_
  refine Wl.val (Runs.assign (by rfl)) rfl ?_
  refine Wl.nil ?_
  refine At.env [(1, _), (5, _)] ⟨by rfl, by rfl, trivial⟩ ?_
  refine At.then_ ?_
  refine Wc.seq ?_
  refine Wc.seq ?_
  -- R2
  refine Wc.region ?_
  refine Wl.val (Runs.move (by rfl)) rfl ?_
  refine Wl.val (Runs.lt (by rfl) (by rfl)) rfl ?_
  refine Wl.nil ?_
  refine At.env [(1, _), (5, _), (10, _)] ⟨by rfl, by rfl, by rfl, trivial⟩ ?_
  refine At.then_ ?_
  -- if 0
  first | refine Wc.ifd (by rfl) (fun h1 => ?_) (fun h1 => ?_) | refine Wc.ifb (by rfl) (fun h1 => ?_) (fun h1 => ?_)
  · skip
    have hb := tmod_bd v hn.1
    -- R3
    refine Wc.region ?_
    refine Wl.val (Runs.move (by rfl)) rfl ?_
    refine Wl.val (Runs.move (by rfl)) rfl ?_
    refine Wl.val (Runs.add (by rfl) (by rfl) (by omega)) rfl ?_
    refine Wl.val (Runs.assign (by rfl)) rfl ?_
    refine Wl.nil ?_
    refine At.env [(5, _)] ⟨by rfl, trivial⟩ ?_
    refine At.then_ ?_
    refine Wc.seq ?_
    -- R4
    refine Wc.region ?_
    refine Wl.val (Runs.move (by rfl)) rfl ?_
    refine Wl.val (Runs.assign (by rfl)) rfl ?_
    refine Wl.nil ?_
    refine At.env [(4, _)] ⟨by rfl, trivial⟩ ?_
    refine At.then_ ?_
    refine Wc.ret ?_
    repeat (first | refine At.thenRet ?_ | refine At.blockRet ?_)
    -- ret 0
    exact At.ret1 () rfl (by first | (show _ = some _; rw [← tmod_neg hn.1 h1]; rfl) | (show _ = some _; rw [← tmod_pos hn.1 h1]; rfl)) (fun _ h => h)
  · skip
    refine Wc.skip ?_
    refine At.then_ ?_
    refine Wc.seq ?_
    -- R4
    refine Wc.region ?_
    refine Wl.val (Runs.move (by rfl)) rfl ?_
    refine Wl.val (Runs.assign (by rfl)) rfl ?_
    refine Wl.nil ?_
    refine At.env [(4, _)] ⟨by rfl, trivial⟩ ?_
    refine At.then_ ?_
    refine Wc.ret ?_
    repeat (first | refine At.thenRet ?_ | refine At.blockRet ?_)
    -- ret 1
    exact At.ret1 () rfl (by first | (show _ = some _; rw [← tmod_neg hn.1 h1]; rfl) | (show _ = some _; rw [← tmod_pos hn.1 h1]; rfl)) (fun _ h => h)

theorem has_some {L : List HP} {F : Fo} (hi : Inc L F.hp) {id : Int} {s : Srf} (hs : look F.L id = some s) : ∀ w, Sat w (L) → Calls Tryd.prog 48 #[.pointer (some ⟨F.f, 0, none⟩), .int .i64 id] w (Ret (α := Unit) (fun _ => .bool true) (fun _ => L)) := by
  refine Spec.enter (n := 12) (vs := [.pointer (some ⟨F.f, 0, none⟩), .int .i64 id]) Tryd.func48 rfl rfl rfl ?_
  dsimp only [enum, Nat.reduceAdd]
  refine Wc.seq ?_
  -- R0
  refine Wc.region ?_
  refine Wl.val (Runs.assign (by rfl)) rfl ?_
  refine Wl.nil ?_
  refine At.env [(0, _), (1, _)] ⟨by rfl, by rfl, trivial⟩ ?_
  refine At.then_ ?_
  refine Wc.seq ?_
  -- R1
  refine Wc.region ?_
  refine Wl.val (Runs.move (by rfl)) rfl ?_
  refine Wl.val (Runs.nilCheck (by rfl)) rfl ?_
  refine Wl.val (Runs.field (by rfl) fa_78_0) rfl ?_
  refine Wl.val (Runs.load1 (by rfl) fl_76 (by first | exact hi.fof | exact (hi.srf hs) | repeat (first | exact Has.here | apply Has.there)) (by rfl)) rfl ?_
  refine Wl.val (Runs.move (by rfl)) rfl ?_
  refine Wl.val (Runs.lookupv mp_76 (by rfl) (by rfl) (by first | exact hi.fomap | repeat (first | exact Has.imap | apply Has.there)) (look_v hs)) rfl ?_
  refine Wl.val (Runs.nep1 up_79 (by rfl)) rfl ?_
  refine Wl.val (Runs.assign (by rfl)) rfl ?_
  refine Wl.nil ?_
  refine At.env [(4, _)] ⟨by rfl, trivial⟩ ?_
  refine At.then_ ?_
  refine Wc.ret ?_
  repeat (first | refine At.thenRet ?_ | refine At.blockRet ?_)
  -- ret 0
  exact At.ret1 () rfl (by rfl) (fun _ h => h)

theorem parent_some {L : List HP} {F : Fo} (hi : Inc L F.hp) {id : Int} {s : Srf} (hs : look F.L id = some s) : ∀ w, Sat w (L) → Calls Tryd.prog 21 #[.pointer (some ⟨F.f, 0, none⟩), .int .i64 id] w (Ret (α := Unit) (fun _ => .int .i64 s.parent) (fun _ => L)) := by
  refine Spec.enter (n := 18) (vs := [.pointer (some ⟨F.f, 0, none⟩), .int .i64 id]) Tryd.func21 rfl rfl rfl ?_
  dsimp only [enum, Nat.reduceAdd]
  refine Wc.seq ?_
  -- R0
  refine Wc.region ?_
  refine Wl.val (Runs.assign (by rfl)) rfl ?_
  refine Wl.nil ?_
  refine At.env [(0, _), (1, _)] ⟨by rfl, by rfl, trivial⟩ ?_
  refine At.then_ ?_
  refine Wc.seq ?_
  refine Wc.seq ?_
  -- R1
  refine Wc.region ?_
  refine Wl.val (Runs.move (by rfl)) rfl ?_
  refine Wl.val (Runs.nilCheck (by rfl)) rfl ?_
  refine Wl.val (Runs.field (by rfl) fa_78_0) rfl ?_
  refine Wl.val (Runs.load1 (by rfl) fl_76 (by first | exact hi.fof | exact (hi.srf hs) | repeat (first | exact Has.here | apply Has.there)) (by rfl)) rfl ?_
  refine Wl.val (Runs.move (by rfl)) rfl ?_
  refine Wl.val (Runs.lookupv mp_76 (by rfl) (by rfl) (by first | exact hi.fomap | repeat (first | exact Has.imap | apply Has.there)) (look_v hs)) rfl ?_
  refine Wl.val (Runs.assign (by rfl)) rfl ?_
  refine Wl.nil ?_
  refine At.env [(5, _)] ⟨by rfl, trivial⟩ ?_
  refine At.then_ ?_
  refine Wc.seq ?_
  -- R2
  refine Wc.region ?_
  refine Wl.val (Runs.move (by rfl)) rfl ?_
  refine Wl.val (Runs.nep1 up_79 (by rfl)) rfl ?_
  refine Wl.nil ?_
  refine At.env [(5, _), (13, _)] ⟨by rfl, by rfl, trivial⟩ ?_
  refine At.then_ ?_
  refine Wc.ift (by rfl) ?_
  refine Wc.seq ?_
  -- R3
  refine Wc.region ?_
  refine Wl.val (Runs.move (by rfl)) rfl ?_
  refine Wl.val (Runs.nilCheck (by rfl)) rfl ?_
  refine Wl.val (Runs.field (by rfl) fa_82_1) rfl ?_
  refine Wl.val (Runs.load1 (by rfl) fl_3 (by first | exact hi.fof | exact (hi.srf hs) | repeat (first | exact Has.here | apply Has.there)) (by rfl)) rfl ?_
  refine Wl.val (Runs.assign (by rfl)) rfl ?_
  refine Wl.nil ?_
  refine At.env [(4, _)] ⟨by rfl, trivial⟩ ?_
  refine At.then_ ?_
  refine Wc.ret ?_
  repeat (first | refine At.thenRet ?_ | refine At.blockRet ?_)
  -- ret 0
  exact At.ret1 () rfl (by rfl) (fun _ h => h)

theorem has_none {L : List HP} {F : Fo} (hi : Inc L F.hp) {id : Int} (hs : look F.L id = none) : ∀ w, Sat w (L) → Calls Tryd.prog 48 #[.pointer (some ⟨F.f, 0, none⟩), .int .i64 id] w (Ret (α := Unit) (fun _ => .bool false) (fun _ => L)) := by
  refine Spec.enter (n := 12) (vs := [.pointer (some ⟨F.f, 0, none⟩), .int .i64 id]) Tryd.func48 rfl rfl rfl ?_
  dsimp only [enum, Nat.reduceAdd]
  refine Wc.seq ?_
  -- R0
  refine Wc.region ?_
  refine Wl.val (Runs.assign (by rfl)) rfl ?_
  refine Wl.nil ?_
  refine At.env [(0, _), (1, _)] ⟨by rfl, by rfl, trivial⟩ ?_
  refine At.then_ ?_
  refine Wc.seq ?_
  -- R1
  refine Wc.region ?_
  refine Wl.val (Runs.move (by rfl)) rfl ?_
  refine Wl.val (Runs.nilCheck (by rfl)) rfl ?_
  refine Wl.val (Runs.field (by rfl) fa_78_0) rfl ?_
  refine Wl.val (Runs.load1 (by rfl) fl_76 (by first | exact hi.fof | exact (hi.srf hs) | repeat (first | exact Has.here | apply Has.there)) (by rfl)) rfl ?_
  refine Wl.val (Runs.move (by rfl)) rfl ?_
  refine Wl.val (Runs.lookupv mp_76 (by rfl) (by rfl) (by first | exact hi.fomap | repeat (first | exact Has.imap | apply Has.there)) (look_n hs)) rfl ?_
  refine Wl.val (Runs.nep0 up_79 (by rfl)) rfl ?_
  refine Wl.val (Runs.assign (by rfl)) rfl ?_
  refine Wl.nil ?_
  refine At.env [(4, _)] ⟨by rfl, trivial⟩ ?_
  refine At.then_ ?_
  refine Wc.ret ?_
  repeat (first | refine At.thenRet ?_ | refine At.blockRet ?_)
  -- ret 0
  exact At.ret1 () rfl (by rfl) (fun _ h => h)

theorem parent_none {L : List HP} {F : Fo} (hi : Inc L F.hp) {id : Int} (hs : look F.L id = none) : ∀ w, Sat w (L) → Calls Tryd.prog 21 #[.pointer (some ⟨F.f, 0, none⟩), .int .i64 id] w (Ret (α := Unit) (fun _ => .int .i64 0) (fun _ => L)) := by
  refine Spec.enter (n := 18) (vs := [.pointer (some ⟨F.f, 0, none⟩), .int .i64 id]) Tryd.func21 rfl rfl rfl ?_
  dsimp only [enum, Nat.reduceAdd]
  refine Wc.seq ?_
  -- R0
  refine Wc.region ?_
  refine Wl.val (Runs.assign (by rfl)) rfl ?_
  refine Wl.nil ?_
  refine At.env [(0, _), (1, _)] ⟨by rfl, by rfl, trivial⟩ ?_
  refine At.then_ ?_
  refine Wc.seq ?_
  refine Wc.seq ?_
  -- R1
  refine Wc.region ?_
  refine Wl.val (Runs.move (by rfl)) rfl ?_
  refine Wl.val (Runs.nilCheck (by rfl)) rfl ?_
  refine Wl.val (Runs.field (by rfl) fa_78_0) rfl ?_
  refine Wl.val (Runs.load1 (by rfl) fl_76 (by first | exact hi.fof | exact (hi.srf hs) | repeat (first | exact Has.here | apply Has.there)) (by rfl)) rfl ?_
  refine Wl.val (Runs.move (by rfl)) rfl ?_
  refine Wl.val (Runs.lookupv mp_76 (by rfl) (by rfl) (by first | exact hi.fomap | repeat (first | exact Has.imap | apply Has.there)) (look_n hs)) rfl ?_
  refine Wl.val (Runs.assign (by rfl)) rfl ?_
  refine Wl.nil ?_
  refine At.env [(5, _)] ⟨by rfl, trivial⟩ ?_
  refine At.then_ ?_
  refine Wc.seq ?_
  -- R2
  refine Wc.region ?_
  refine Wl.val (Runs.move (by rfl)) rfl ?_
  refine Wl.val (Runs.nep0 up_79 (by rfl)) rfl ?_
  refine Wl.nil ?_
  refine At.env [(5, _), (13, _)] ⟨by rfl, by rfl, trivial⟩ ?_
  refine At.then_ ?_
  refine Wc.iff_ (by rfl) ?_
  refine Wc.skip ?_
  refine At.then_ ?_
  refine Wc.seq ?_
  -- R4
  refine Wc.region ?_
  refine Wl.val (Runs.assign (by rfl)) rfl ?_
  refine Wl.nil ?_
  refine At.env [(4, _)] ⟨by rfl, trivial⟩ ?_
  refine At.then_ ?_
  refine Wc.ret ?_
  repeat (first | refine At.thenRet ?_ | refine At.blockRet ?_)
  -- ret 0
  exact At.ret1 () rfl (by rfl) (fun _ h => h)
end Go.Proofs.Sl

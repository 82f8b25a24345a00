/- Printed by a program of this session out of the translation (wip/tools/gen.py): walks. -/
import Derived.Test.YtlffcinkijlaiaaDoorFe
import Derived.Test.YtlffcinkijlaiaaDoorProg
import Derived.KernelRfl
namespace Go.Proofs.Sl
open Go
set_option linter.unusedVariables false
set_option linter.unusedSimpArgs false
set_option maxRecDepth 20000
theorem en_57 : Enters Tryd.prog 57 := fun _ _ => by kernel_rfl
theorem en_87 : Enters Tryd.prog 87 := fun _ _ => by kernel_rfl
theorem fa_82_3 : ∀ b o w, (Instr.fieldAt 82 (.pointer (some ⟨b, o, none⟩)) 3).run Tryd.prog w = .ok (.pointer (some ⟨b, o + 3, none⟩)) w := fun _ _ _ => by kernel_rfl
theorem fa_82_4 : ∀ b o w, (Instr.fieldAt 82 (.pointer (some ⟨b, o, none⟩)) 4).run Tryd.prog w = .ok (.pointer (some ⟨b, o + 13, none⟩)) w := fun _ _ _ => by kernel_rfl
theorem fa_82_5 : ∀ b o w, (Instr.fieldAt 82 (.pointer (some ⟨b, o, none⟩)) 5).run Tryd.prog w = .ok (.pointer (some ⟨b, o + 23, none⟩)) w := fun _ _ _ => by kernel_rfl

set_option maxHeartbeats 1000000 in
theorem apply_spec {L : List HP} {m1 m2 : RSt} (r1 : RSt.Rd L m1) (r2 : RSt.Rd L m2) (s1 : m1.Small) (s2 : m2.Small) : ∀ w, Sat w (L) → Calls Tryd.prog 59 #[.agg m1.cells.toArray, .agg m2.cells.toArray] w (Ret (α := { r : RSt // r.abs = m1.abs.apply m2.abs }) (fun r => .agg r.1.cells.toArray) (fun r => r.1.rows ++ L)) := by
  refine Spec.enter (n := 14) (vs := [.agg m1.cells.toArray, .agg m2.cells.toArray]) Tryd.func59 rfl rfl rfl ?_
  dsimp only [enum, Nat.reduceAdd]
  refine Wc.seq ?_
  -- R0
  refine Wc.region ?_
  refine Wl.valX (RunsX.box (cs := [.bool m1.at_, .int .i64 m1.bu, m1.da.v, m1.fr.v, .bool m1.inp, .bool m1.all, m1.re.v, .bool m1.ord, m1.ol.v, m1.pl.v]) (by rfl) (by rfl)) rfl (fun b2 => ?_)
  try dsimp only
  refine Wl.valX (RunsX.box (cs := [.bool m2.at_, .int .i64 m2.bu, m2.da.v, m2.fr.v, .bool m2.inp, .bool m2.all, m2.re.v, .bool m2.ord, m2.ol.v, m2.pl.v]) (by rfl) (by rfl)) rfl (fun b3 => ?_)
  try dsimp only
  refine Wl.valX (RunsX.alloc (cs := [.bool false, .int .i64 0, .slice none 0 0, .slice none 0 0, .bool false, .bool false, .slice none 0 0, .bool false, .slice none 0 0, .slice none 0 0]) zr_37 rfl) rfl (fun b4 => ?_)
  try dsimp only
  refine Wl.nil ?_
  refine At.env [(2, _), (3, _), (4, _)] ⟨by rfl, by rfl, by rfl, trivial⟩ ?_
  refine At.then_ ?_
  refine Wc.seq ?_
  -- R1
  refine Wc.region ?_
  refine Wl.val (Runs.loadN (vs := [.bool m1.at_, .int .i64 m1.bu, m1.da.v, m1.fr.v, .bool m1.inp, .bool m1.all, m1.re.v, .bool m1.ord, m1.ol.v, m1.pl.v]) (by rfl) ag_37 (by repeat (first | exact Has.here | apply Has.there)) (by rfl) (by rfl)) rfl ?_
  refine Wl.val (Runs.loadN (vs := [.bool m2.at_, .int .i64 m2.bu, m2.da.v, m2.fr.v, .bool m2.inp, .bool m2.all, m2.re.v, .bool m2.ord, m2.ol.v, m2.pl.v]) (by rfl) ag_37 (by repeat (first | exact Has.here | apply Has.there)) (by rfl) (by rfl)) rfl ?_
  refine Wl.call en_57 (by rfl) (merge_spec (r1.weak (fun _ h => h.drop.drop.drop)) (r2.weak (fun _ h => h.drop.drop.drop)) s1 s2) rfl (fun q => ?_)
  try dsimp only
  refine Wl.mem (L' := own encR q.1.da :: own encI q.1.fr :: own encR q.1.re :: own encI q.1.ol :: own encC q.1.pl :: cel b4 37 [.bool false, .int .i64 0, .slice none 0 0, .slice none 0 0, .bool false, .bool false, .slice none 0 0, .bool false, .slice none 0 0, .slice none 0 0] :: L) (fun _ h => Pick.sat (by refine Pick.cons .here (Pick.cons .here (Pick.cons .here (Pick.cons .here (Pick.cons .here (Pick.cons .here (Pick.drop (Pick.drop .refl)))))))) h) ?_
  refine Wl.valX (RunsX.alloc (cs := [.bool false, .int .i64 0, .slice none 0 0, .slice none 0 0, .bool false, .bool false, .slice none 0 0, .bool false, .slice none 0 0, .slice none 0 0]) zr_37 rfl) rfl (fun b5 => ?_)
  try dsimp only
  refine Wl.act (Acts.store (vs := [.bool q.1.at_, .int .i64 q.1.bu, q.1.da.v, q.1.fr.v, .bool q.1.inp, .bool q.1.all, q.1.re.v, .bool q.1.ord, q.1.ol.v, q.1.pl.v]) (by rfl) (by rfl) sz_37 (by rfl) (by rfl) (by rfl) (by repeat (first | exact Has.here | apply Has.there)) (by exact Nat.le_of_ble_eq_true rfl) (by simp only [Srf.cells, RSt.cells, List.cons_append, List.nil_append, wrs, List.set_cons_zero, List.set_cons_succ, Nat.reduceAdd, Nat.zero_add, Nat.add_zero]; rfl) (by repeat (first | exact UpdL.cel | apply UpdL.there))) ?_
  refine Wl.nil ?_
  refine At.env [(4, _), (5, _)] ⟨by rfl, by rfl, trivial⟩ ?_
  refine At.then_ ?_
  refine Wc.seq ?_
  -- R2
  refine Wc.region ?_
  refine Wl.val (Runs.field (by rfl) fa_37_0) rfl ?_
  refine Wl.act (Acts.store (vs := [_]) (by rfl) (by rfl) sz_4 (by rfl) (by rfl) (by rfl) (by repeat (first | exact Has.here | apply Has.there)) (by exact Nat.le_of_ble_eq_true rfl) (by simp only [Srf.cells, RSt.cells, List.cons_append, List.nil_append, wrs, List.set_cons_zero, List.set_cons_succ, Nat.reduceAdd, Nat.zero_add, Nat.add_zero]; rfl) (by repeat (first | exact UpdL.cel | apply UpdL.there))) ?_
  refine Wl.val (Runs.field (by rfl) fa_37_2) rfl ?_
  refine Wl.act (Acts.store (vs := [_]) (by rfl) (by rfl) sz_34 (by rfl) (by rfl) (by rfl) (by repeat (first | exact Has.here | apply Has.there)) (by exact Nat.le_of_ble_eq_true rfl) (by simp only [Srf.cells, RSt.cells, List.cons_append, List.nil_append, wrs, List.set_cons_zero, List.set_cons_succ, Nat.reduceAdd, Nat.zero_add, Nat.add_zero]; rfl) (by repeat (first | exact UpdL.cel | apply UpdL.there))) ?_
  refine Wl.val (Runs.field (by rfl) fa_37_4) rfl ?_
  refine Wl.act (Acts.store (vs := [_]) (by rfl) (by rfl) sz_4 (by rfl) (by rfl) (by rfl) (by repeat (first | exact Has.here | apply Has.there)) (by exact Nat.le_of_ble_eq_true rfl) (by simp only [Srf.cells, RSt.cells, List.cons_append, List.nil_append, wrs, List.set_cons_zero, List.set_cons_succ, Nat.reduceAdd, Nat.zero_add, Nat.add_zero]; rfl) (by repeat (first | exact UpdL.cel | apply UpdL.there))) ?_
  refine Wl.val (Runs.field (by rfl) fa_37_7) rfl ?_
  refine Wl.act (Acts.store (vs := [_]) (by rfl) (by rfl) sz_4 (by rfl) (by rfl) (by rfl) (by repeat (first | exact Has.here | apply Has.there)) (by exact Nat.le_of_ble_eq_true rfl) (by simp only [Srf.cells, RSt.cells, List.cons_append, List.nil_append, wrs, List.set_cons_zero, List.set_cons_succ, Nat.reduceAdd, Nat.zero_add, Nat.add_zero]; rfl) (by repeat (first | exact UpdL.cel | apply UpdL.there))) ?_
  refine Wl.nil ?_
  refine At.env [(4, _), (5, _)] ⟨by rfl, by rfl, trivial⟩ ?_
  refine At.then_ ?_
  refine Wc.seq ?_
  -- R3
  refine Wc.region ?_
  refine Wl.val (Runs.loadN (vs := [.bool false, .int .i64 q.1.bu, .slice none 0 0, q.1.fr.v, .bool false, .bool q.1.all, q.1.re.v, .bool false, q.1.ol.v, q.1.pl.v]) (by rfl) ag_37 (by repeat (first | exact Has.here | apply Has.there)) (by rfl) (by rfl)) rfl ?_
  refine Wl.act (Acts.store (vs := [.bool false, .int .i64 q.1.bu, .slice none 0 0, q.1.fr.v, .bool false, .bool q.1.all, q.1.re.v, .bool false, q.1.ol.v, q.1.pl.v]) (by rfl) (by rfl) sz_37 (by rfl) (by rfl) (by rfl) (by repeat (first | exact Has.here | apply Has.there)) (by exact Nat.le_of_ble_eq_true rfl) (by simp only [Srf.cells, RSt.cells, List.cons_append, List.nil_append, wrs, List.set_cons_zero, List.set_cons_succ, Nat.reduceAdd, Nat.zero_add, Nat.add_zero]; rfl) (by repeat (first | exact UpdL.cel | apply UpdL.there))) ?_
  refine Wl.nil ?_
  refine At.env [(4, _)] ⟨by rfl, trivial⟩ ?_
  refine At.then_ ?_
  refine Wc.ret ?_
  repeat (first | refine At.thenRet ?_ | refine At.blockRet ?_)
  -- ret 0
  exact At.retN (⟨⟨false, q.1.bu, .nil, q.1.fr, false, q.1.all, q.1.re, false, q.1.ol, q.1.pl⟩, by have h := q.2; simp only [RSt.abs, PSt.apply, PSt.merge, PSt.mk.injEq] at h ⊢; simp [h, Sli.nil]⟩) rfl (by rfl) ag_37 (by repeat (first | exact Has.here | apply Has.there)) (vs := [_, _, _, _, _, _, _, _, _, _]) (by rfl) (by rfl) (by rfl) (fun _ h => by
      have h1 := Pick.sat (M := own encI q.1.fr :: own encR q.1.re :: own encI q.1.ol :: own encC q.1.pl :: L) (by refine Pick.drop (Pick.drop ?_); refine Pick.cons .here (Pick.cons .here (Pick.cons .here (Pick.cons .here (Pick.drop .refl))))) h
      exact Sat.toOwnNil h1 rfl rfl)

theorem none_eq (m : RSt) : m.abs.none = (!m.at_ && decide ((m.da.xs.length : Int) = 0) && decide ((m.fr.xs.length : Int) = 0) && !m.inp && !m.ord && decide ((m.pl.xs.length : Int) = 0)) := by
  have h : ∀ n : Nat, decide ((n : Int) = 0) = (n == 0) := fun n => by cases n <;> simp; omega
  simp only [h]; rfl

set_option maxHeartbeats 1000000 in
theorem none_spec {L : List HP} {m : RSt} : ∀ w, Sat w (L) → Calls Tryd.prog 60 #[.agg m.cells.toArray] w (Ret (α := Unit) (fun _ => .bool m.abs.none) (fun _ => L)) := by
  refine Spec.enter (n := 34) (vs := [.agg m.cells.toArray]) Tryd.func60 rfl rfl rfl ?_
  dsimp only [enum, Nat.reduceAdd]
  refine Wc.seq ?_
  -- R0
  refine Wc.region ?_
  refine Wl.valX (RunsX.box (cs := [.bool m.at_, .int .i64 m.bu, m.da.v, m.fr.v, .bool m.inp, .bool m.all, m.re.v, .bool m.ord, m.ol.v, m.pl.v]) (by rfl) (by rfl)) rfl (fun b1 => ?_)
  try dsimp only
  refine Wl.val (Runs.assign (by rfl)) rfl ?_
  refine Wl.nil ?_
  refine At.env [(1, _)] ⟨by rfl, trivial⟩ ?_
  refine At.then_ ?_
  refine Wc.seq ?_
  -- R1
  refine Wc.region ?_
  refine Wl.val (Runs.field (by rfl) fa_37_0) rfl ?_
  refine Wl.val (Runs.load1 (by rfl) fl_4 (by repeat (first | exact Has.here | apply Has.there)) (by rfl)) rfl ?_
  first | refine Wl.val (Runs.notd (by rfl)) rfl ?_ | refine Wl.val (Runs.not (by rfl)) rfl ?_
  refine Wl.val (Runs.move (by rfl)) rfl ?_
  -- split R1.4
  first | refine Wl.splitd 6 (by rfl) (fun h1 => ?_) (fun h1 => ?_) | refine Wl.split 6 (by rfl) (fun h1 => ?_) (fun h1 => ?_)
  · skip
    refine Wl.wanted (d := 6) rfl rfl ?_
    refine Wl.val (Runs.field (by rfl) fa_37_2) rfl ?_
    refine Wl.wanted (d := 6) rfl rfl ?_
    refine Wl.val (Runs.load1 (by rfl) fl_34 (by repeat (first | exact Has.here | apply Has.there)) (by rfl)) rfl ?_
    refine Wl.wanted (d := 6) rfl rfl ?_
    refine Wl.val (Runs.lenSlice us_34 rfl (by rfl)) rfl ?_
    refine Wl.wanted (d := 6) rfl rfl ?_
    refine Wl.val (Runs.eq (by rfl) (by rfl)) rfl ?_
    refine Wl.val (Runs.pickt (by rfl) (by rfl)) rfl ?_
    refine Wl.val (Runs.move (by rfl)) rfl ?_
    -- split R1.10
    first | refine Wl.splitd 12 (by rfl) (fun h2 => ?_) (fun h2 => ?_) | refine Wl.split 12 (by rfl) (fun h2 => ?_) (fun h2 => ?_)
    · skip
      refine Wl.wanted (d := 12) rfl rfl ?_
      refine Wl.val (Runs.field (by rfl) fa_37_3) rfl ?_
      refine Wl.wanted (d := 12) rfl rfl ?_
      refine Wl.val (Runs.load1 (by rfl) fl_29 (by repeat (first | exact Has.here | apply Has.there)) (by rfl)) rfl ?_
      refine Wl.wanted (d := 12) rfl rfl ?_
      refine Wl.val (Runs.lenSlice us_29 rfl (by rfl)) rfl ?_
      refine Wl.wanted (d := 12) rfl rfl ?_
      refine Wl.val (Runs.eq (by rfl) (by rfl)) rfl ?_
      refine Wl.val (Runs.pickt (by rfl) (by rfl)) rfl ?_
      refine Wl.val (Runs.move (by rfl)) rfl ?_
      -- split R1.16
      first | refine Wl.splitd 18 (by rfl) (fun h3 => ?_) (fun h3 => ?_) | refine Wl.split 18 (by rfl) (fun h3 => ?_) (fun h3 => ?_)
      · skip
        refine Wl.wanted (d := 18) rfl rfl ?_
        refine Wl.val (Runs.field (by rfl) fa_37_4) rfl ?_
        refine Wl.wanted (d := 18) rfl rfl ?_
        refine Wl.val (Runs.load1 (by rfl) fl_4 (by repeat (first | exact Has.here | apply Has.there)) (by rfl)) rfl ?_
        refine Wl.wanted (d := 18) rfl rfl ?_
        first | refine Wl.val (Runs.notd (by rfl)) rfl ?_ | refine Wl.val (Runs.not (by rfl)) rfl ?_
        refine Wl.val (Runs.pickt (by rfl) (by rfl)) rfl ?_
        refine Wl.val (Runs.move (by rfl)) rfl ?_
        -- split R1.21
        first | refine Wl.splitd 23 (by rfl) (fun h4 => ?_) (fun h4 => ?_) | refine Wl.split 23 (by rfl) (fun h4 => ?_) (fun h4 => ?_)
        · skip
          refine Wl.wanted (d := 23) rfl rfl ?_
          refine Wl.val (Runs.field (by rfl) fa_37_7) rfl ?_
          refine Wl.wanted (d := 23) rfl rfl ?_
          refine Wl.val (Runs.load1 (by rfl) fl_4 (by repeat (first | exact Has.here | apply Has.there)) (by rfl)) rfl ?_
          refine Wl.wanted (d := 23) rfl rfl ?_
          first | refine Wl.val (Runs.notd (by rfl)) rfl ?_ | refine Wl.val (Runs.not (by rfl)) rfl ?_
          refine Wl.val (Runs.pickt (by rfl) (by rfl)) rfl ?_
          refine Wl.val (Runs.move (by rfl)) rfl ?_
          -- split R1.26
          first | refine Wl.splitd 28 (by rfl) (fun h5 => ?_) (fun h5 => ?_) | refine Wl.split 28 (by rfl) (fun h5 => ?_) (fun h5 => ?_)
          · skip
            refine Wl.wanted (d := 28) rfl rfl ?_
            refine Wl.val (Runs.field (by rfl) fa_37_9) rfl ?_
            refine Wl.wanted (d := 28) rfl rfl ?_
            refine Wl.val (Runs.load1 (by rfl) fl_35 (by repeat (first | exact Has.here | apply Has.there)) (by rfl)) rfl ?_
            refine Wl.wanted (d := 28) rfl rfl ?_
            refine Wl.val (Runs.lenSlice us_35 rfl (by rfl)) rfl ?_
            refine Wl.wanted (d := 28) rfl rfl ?_
            refine Wl.val (Runs.eq (by rfl) (by rfl)) rfl ?_
            refine Wl.val (Runs.pickt (by rfl) (by rfl)) rfl ?_
            refine Wl.val (Runs.assign (by rfl)) rfl ?_
            refine Wl.nil ?_
            refine At.env [(2, _)] ⟨by rfl, trivial⟩ ?_
            refine At.then_ ?_
            refine Wc.ret ?_
            repeat (first | refine At.thenRet ?_ | refine At.blockRet ?_)
            -- ret 0
            exact At.ret1 () rfl (by rw [none_eq]; simp only [*, decide_true, decide_false, Bool.and_true, Bool.true_and, Bool.and_false, Bool.false_and]; rfl) (fun _ h => h.drop)
          · skip
            refine Wl.unwanted (d := 28) rfl rfl rfl rfl ?_
            refine Wl.unwanted (d := 28) rfl rfl rfl rfl ?_
            refine Wl.unwanted (d := 28) rfl rfl rfl rfl ?_
            refine Wl.unwanted (d := 28) rfl rfl rfl rfl ?_
            refine Wl.val (Runs.pickf (by rfl) (by rfl)) rfl ?_
            refine Wl.val (Runs.assign (by rfl)) rfl ?_
            refine Wl.nil ?_
            refine At.env [(2, _)] ⟨by rfl, trivial⟩ ?_
            refine At.then_ ?_
            refine Wc.ret ?_
            repeat (first | refine At.thenRet ?_ | refine At.blockRet ?_)
            -- ret 1
            exact At.ret1 () rfl (by rw [none_eq]; simp only [*, decide_true, decide_false, Bool.and_true, Bool.true_and, Bool.and_false, Bool.false_and]; rfl) (fun _ h => h.drop)
        · skip
          refine Wl.unwanted (d := 23) rfl rfl rfl rfl ?_
          refine Wl.unwanted (d := 23) rfl rfl rfl rfl ?_
          refine Wl.unwanted (d := 23) rfl rfl rfl rfl ?_
          refine Wl.val (Runs.pickf (by rfl) (by rfl)) rfl ?_
          refine Wl.val (Runs.move (by rfl)) rfl ?_
          refine Wl.unwanted (d := 28) rfl rfl rfl rfl ?_
          refine Wl.unwanted (d := 28) rfl rfl rfl rfl ?_
          refine Wl.unwanted (d := 28) rfl rfl rfl rfl ?_
          refine Wl.unwanted (d := 28) rfl rfl rfl rfl ?_
          refine Wl.val (Runs.pickf (by rfl) (by rfl)) rfl ?_
          refine Wl.val (Runs.assign (by rfl)) rfl ?_
          refine Wl.nil ?_
          refine At.env [(2, _)] ⟨by rfl, trivial⟩ ?_
          refine At.then_ ?_
          refine Wc.ret ?_
          repeat (first | refine At.thenRet ?_ | refine At.blockRet ?_)
          -- ret 2
          exact At.ret1 () rfl (by rw [none_eq]; simp only [*, decide_true, decide_false, Bool.and_true, Bool.true_and, Bool.and_false, Bool.false_and]; rfl) (fun _ h => h.drop)
      · skip
        refine Wl.unwanted (d := 18) rfl rfl rfl rfl ?_
        refine Wl.unwanted (d := 18) rfl rfl rfl rfl ?_
        refine Wl.unwanted (d := 18) rfl rfl rfl rfl ?_
        refine Wl.val (Runs.pickf (by rfl) (by rfl)) rfl ?_
        refine Wl.val (Runs.move (by rfl)) rfl ?_
        refine Wl.unwanted (d := 23) rfl rfl rfl rfl ?_
        refine Wl.unwanted (d := 23) rfl rfl rfl rfl ?_
        refine Wl.unwanted (d := 23) rfl rfl rfl rfl ?_
        refine Wl.val (Runs.pickf (by rfl) (by rfl)) rfl ?_
        refine Wl.val (Runs.move (by rfl)) rfl ?_
        refine Wl.unwanted (d := 28) rfl rfl rfl rfl ?_
        refine Wl.unwanted (d := 28) rfl rfl rfl rfl ?_
        refine Wl.unwanted (d := 28) rfl rfl rfl rfl ?_
        refine Wl.unwanted (d := 28) rfl rfl rfl rfl ?_
        refine Wl.val (Runs.pickf (by rfl) (by rfl)) rfl ?_
        refine Wl.val (Runs.assign (by rfl)) rfl ?_
        refine Wl.nil ?_
        refine At.env [(2, _)] ⟨by rfl, trivial⟩ ?_
        refine At.then_ ?_
        refine Wc.ret ?_
        repeat (first | refine At.thenRet ?_ | refine At.blockRet ?_)
        -- ret 3
        exact At.ret1 () rfl (by rw [none_eq]; simp only [*, decide_true, decide_false, Bool.and_true, Bool.true_and, Bool.and_false, Bool.false_and]; rfl) (fun _ h => h.drop)
    · skip
      refine Wl.unwanted (d := 12) rfl rfl rfl rfl ?_
      refine Wl.unwanted (d := 12) rfl rfl rfl rfl ?_
      refine Wl.unwanted (d := 12) rfl rfl rfl rfl ?_
      refine Wl.unwanted (d := 12) rfl rfl rfl rfl ?_
      refine Wl.val (Runs.pickf (by rfl) (by rfl)) rfl ?_
      refine Wl.val (Runs.move (by rfl)) rfl ?_
      refine Wl.unwanted (d := 18) rfl rfl rfl rfl ?_
      refine Wl.unwanted (d := 18) rfl rfl rfl rfl ?_
      refine Wl.unwanted (d := 18) rfl rfl rfl rfl ?_
      refine Wl.val (Runs.pickf (by rfl) (by rfl)) rfl ?_
      refine Wl.val (Runs.move (by rfl)) rfl ?_
      refine Wl.unwanted (d := 23) rfl rfl rfl rfl ?_
      refine Wl.unwanted (d := 23) rfl rfl rfl rfl ?_
      refine Wl.unwanted (d := 23) rfl rfl rfl rfl ?_
      refine Wl.val (Runs.pickf (by rfl) (by rfl)) rfl ?_
      refine Wl.val (Runs.move (by rfl)) rfl ?_
      refine Wl.unwanted (d := 28) rfl rfl rfl rfl ?_
      refine Wl.unwanted (d := 28) rfl rfl rfl rfl ?_
      refine Wl.unwanted (d := 28) rfl rfl rfl rfl ?_
      refine Wl.unwanted (d := 28) rfl rfl rfl rfl ?_
      refine Wl.val (Runs.pickf (by rfl) (by rfl)) rfl ?_
      refine Wl.val (Runs.assign (by rfl)) rfl ?_
      refine Wl.nil ?_
      refine At.env [(2, _)] ⟨by rfl, trivial⟩ ?_
      refine At.then_ ?_
      refine Wc.ret ?_
      repeat (first | refine At.thenRet ?_ | refine At.blockRet ?_)
      -- ret 4
      exact At.ret1 () rfl (by rw [none_eq]; simp only [*, decide_true, decide_false, Bool.and_true, Bool.true_and, Bool.and_false, Bool.false_and]; rfl) (fun _ h => h.drop)
  · skip
    refine Wl.unwanted (d := 6) rfl rfl rfl rfl ?_
    refine Wl.unwanted (d := 6) rfl rfl rfl rfl ?_
    refine Wl.unwanted (d := 6) rfl rfl rfl rfl ?_
    refine Wl.unwanted (d := 6) rfl rfl rfl rfl ?_
    refine Wl.val (Runs.pickf (by rfl) (by rfl)) rfl ?_
    refine Wl.val (Runs.move (by rfl)) rfl ?_
    refine Wl.unwanted (d := 12) rfl rfl rfl rfl ?_
    refine Wl.unwanted (d := 12) rfl rfl rfl rfl ?_
    refine Wl.unwanted (d := 12) rfl rfl rfl rfl ?_
    refine Wl.unwanted (d := 12) rfl rfl rfl rfl ?_
    refine Wl.val (Runs.pickf (by rfl) (by rfl)) rfl ?_
    refine Wl.val (Runs.move (by rfl)) rfl ?_
    refine Wl.unwanted (d := 18) rfl rfl rfl rfl ?_
    refine Wl.unwanted (d := 18) rfl rfl rfl rfl ?_
    refine Wl.unwanted (d := 18) rfl rfl rfl rfl ?_
    refine Wl.val (Runs.pickf (by rfl) (by rfl)) rfl ?_
    refine Wl.val (Runs.move (by rfl)) rfl ?_
    refine Wl.unwanted (d := 23) rfl rfl rfl rfl ?_
    refine Wl.unwanted (d := 23) rfl rfl rfl rfl ?_
    refine Wl.unwanted (d := 23) rfl rfl rfl rfl ?_
    refine Wl.val (Runs.pickf (by rfl) (by rfl)) rfl ?_
    refine Wl.val (Runs.move (by rfl)) rfl ?_
    refine Wl.unwanted (d := 28) rfl rfl rfl rfl ?_
    refine Wl.unwanted (d := 28) rfl rfl rfl rfl ?_
    refine Wl.unwanted (d := 28) rfl rfl rfl rfl ?_
    refine Wl.unwanted (d := 28) rfl rfl rfl rfl ?_
    refine Wl.val (Runs.pickf (by rfl) (by rfl)) rfl ?_
    refine Wl.val (Runs.assign (by rfl)) rfl ?_
    refine Wl.nil ?_
    refine At.env [(2, _)] ⟨by rfl, trivial⟩ ?_
    refine At.then_ ?_
    refine Wc.ret ?_
    repeat (first | refine At.thenRet ?_ | refine At.blockRet ?_)
    -- ret 5
    exact At.ret1 () rfl (by rw [none_eq]; simp only [*, decide_true, decide_false, Bool.and_true, Bool.true_and, Bool.and_false, Bool.false_and]; rfl) (fun _ h => h.drop)

theorem first_spec {L : List HP} : ∀ w, Sat w (L) → Calls Tryd.prog 52 #[] w (Ret (α := { r : RSt // r.abs = PSt.first }) (fun r => .agg r.1.cells.toArray) (fun r => r.1.rows ++ L)) := by
  refine Spec.enter (n := 3) (vs := []) Tryd.func52 rfl rfl rfl ?_
  dsimp only [enum, Nat.reduceAdd]
  refine Wc.seq ?_
  -- R0
  refine Wc.region ?_
  refine Wl.valX (RunsX.alloc (cs := [.bool false, .int .i64 0, .slice none 0 0, .slice none 0 0, .bool false, .bool false, .slice none 0 0, .bool false, .slice none 0 0, .slice none 0 0]) zr_37 rfl) rfl (fun b0 => ?_)
  try dsimp only
  refine Wl.nil ?_
  refine At.env [(0, _)] ⟨by rfl, trivial⟩ ?_
  refine At.then_ ?_
  refine Wc.seq ?_
  -- R1
  refine Wc.region ?_
  refine Wl.valX (RunsX.buildSlice (U := 3) (cs := [.int .i64 0]) (by rfl) (fun _ => by kernel_rfl)) rfl (fun b1 => ?_)
  try dsimp only
  refine Wl.val (Runs.build (v := .agg #[.bool false, .int .i64 0, .slice none 0 0, .slice none 0 0, .bool false, .bool true, .slice none 0 0, .bool false, .slice (some ⟨b1, 0, none⟩) 1 1, .slice none 0 0]) (by rfl) (fun _ => by kernel_rfl)) rfl ?_
  refine Wl.act (Acts.store (vs := [.bool false, .int .i64 0, .slice none 0 0, .slice none 0 0, .bool false, .bool true, .slice none 0 0, .bool false, .slice (some ⟨b1, 0, none⟩) 1 1, .slice none 0 0]) (by rfl) (by rfl) sz_37 (by rfl) (by rfl) (by rfl) (by repeat (first | exact Has.here | apply Has.there)) (by exact Nat.le_of_ble_eq_true rfl) (by simp only [Srf.cells, RSt.cells, List.cons_append, List.nil_append, wrs, List.set_cons_zero, List.set_cons_succ, Nat.reduceAdd, Nat.zero_add, Nat.add_zero]; rfl) (by repeat (first | exact UpdL.cel | apply UpdL.there))) ?_
  refine Wl.nil ?_
  refine At.env [(0, _)] ⟨by rfl, trivial⟩ ?_
  refine At.then_ ?_
  refine Wc.ret ?_
  repeat (first | refine At.thenRet ?_ | refine At.blockRet ?_)
  -- ret 0
  exact At.retN (⟨⟨false, 0, .nil, .nil, false, true, .nil, false, ⟨some ⟨b1, 0, none⟩, 1, [0]⟩, .nil⟩, rfl⟩) rfl (by rfl) ag_37 (by repeat (first | exact Has.here | apply Has.there)) (vs := [_, _, _, _, _, _, _, _, _, _]) (by rfl) (by rfl) (by rfl) (fun _ h => by
      have h1 : Sat _ (cel b1 encI.T [.int .i64 0] :: L) := h.swap.drop
      have h2 : Sat _ (own encI ⟨some ⟨b1, 0, none⟩, 1, [0]⟩ :: L) := h1.toOwn (off := 0) rfl (Nat.le_refl _) (Nat.le_refl _) rfl
      have h3 : Sat _ (own encC .nil :: own encI ⟨some ⟨b1, 0, none⟩, 1, [0]⟩ :: L) := h2.toOwnNil rfl rfl
      exact Sat.toOwnNil (Sat.toOwnNil (Sat.toOwnNil h3.swap rfl rfl) rfl rfl) rfl rfl)

theorem Runs.sliceLoA {P : Program} {n : Nat} {E : Env} {L : List HP} {ty : TypeId} {ps : String} {af : Array Edge} {gd : Option (Nat × Bool)} {d : Option Tmp} {T el k : TypeId} {x y : Operand} {b off len cap lo : Nat} {i : Int} (hT : ∀ w, (underlying T).run P w = .ok (.slice el) w) (hs : ∀ w, (sizeOf el).run P w = .ok k w)
    (hx : Env.ev E x = some (.slice (some ⟨b, off, none⟩) len cap)) (hy : Env.ev E y = some (.int .i64 i)) (hi' : i = (lo : Int)) (h2 : lo ≤ len) (h3 : lo < cap) :
    Runs P n E L ⟨d, .slice T x (some y) none none, ty, ps, af, gd⟩ (.slice (some ⟨b, off + lo * k, none⟩) (len - lo) (cap - lo)) := by
  have := Runs.sliceLo (P := P) (n := n) (L := L) (d := d) (ty := ty) (ps := ps) (af := af) (gd := gd) hT hs hx hy hi' h2
  rw [if_neg (by omega)] at this
  simpa [addr_add] using this
theorem drop_take (l : List Int) (id : Int) (i : Nat) (h : i < l.length) : drop (l.take (i + 1)) id = if l[i] = id then drop (l.take i) id else drop (l.take i) id ++ [l[i]] := by
  rw [List.take_succ_eq_append_getElem h, drop, List.filter_append]
  by_cases e : l[i] = id <;> simp [e, drop]
theorem drop_length (l : List Int) (id : Int) : (drop l id).length ≤ l.length := List.length_filter_le _ _
theorem drop_take_length (l : List Int) (id : Int) (i : Nat) : (drop (l.take i) id).length ≤ i := Nat.le_trans (drop_length _ _) (by simp; omega)

theorem drop_spec {L : List HP} {s : Sli Int} {id : Int} (hr : Rds L encI s) (hb : s.xs.length ≤ 1000000000) : ∀ w, Sat w (L) → Calls Tryd.prog 87 #[s.v, .int .i64 id] w (Ret (α := { q : Sli Int // q.xs = drop s.xs id }) (fun q => q.1.v) (fun q => own encI q.1 :: L)) := by
  refine Spec.enter (n := 33) (vs := [s.v, .int .i64 id]) Tryd.func87 rfl rfl rfl ?_
  dsimp only [enum, Nat.reduceAdd]
  refine Wc.seq ?_
  -- R0
  refine Wc.region ?_
  refine Wl.val (Runs.assign (by rfl)) rfl ?_
  refine Wl.nil ?_
  refine At.env [(0, _), (1, _)] ⟨by rfl, by rfl, trivial⟩ ?_
  refine At.then_ ?_
  refine Wc.seq ?_
  -- R1
  refine Wc.region ?_
  refine Wl.val (Runs.move (by rfl)) rfl ?_
  refine Wl.val (Runs.lenSlice us_29 rfl (p := s.a) (l := s.xs.length) (c := s.cap) (by rfl)) rfl ?_
  refine Wl.valX (RunsX.makeSlice el_I (by rfl) (by rfl) (by omega)) rfl (fun b => ?_)
  try dsimp only
  refine Wl.val (Runs.assign (by rfl)) rfl ?_
  refine Wl.nil ?_
  refine At.env [(0, _), (1, _), (5, _)] ⟨by rfl, by rfl, by rfl, trivial⟩ ?_
  refine At.then_ ?_
  refine Wc.seq ?_
  -- R2
  refine Wc.region ?_
  refine Wl.val (Runs.assign (by rfl)) rfl ?_
  refine Wl.nil ?_
  refine At.env [(0, _), (1, _), (5, _), (6, _)] ⟨by rfl, by rfl, by rfl, by rfl, trivial⟩ ?_
  refine At.then_ ?_
  refine Wc.seq ?_
  refine Wc.seq ?_
  -- R3
  refine Wc.region ?_
  refine Wl.val (Runs.move (by rfl)) rfl ?_
  refine Wl.val (Runs.lenSlice us_29 rfl (p := s.a) (l := s.xs.length) (c := s.cap) (by rfl)) rfl ?_
  refine Wl.val (Runs.move (by rfl)) rfl ?_
  refine Wl.nil ?_
  refine At.env [(1, _), (5, _), (6, _), (12, _), (13, _), (14, _)] ⟨by rfl, by rfl, by rfl, by rfl, by rfl, by rfl, trivial⟩ ?_
  refine At.then_ ?_
  refine Wc.block ?_
  refine Wc.loop (α := Nat × List Int) (fun y => [(1, .int .i64 id), (5, .slice (some ⟨b, 0, none⟩) s.xs.length s.xs.length), (6, .int .i64 ((y.2.length : Nat) : Int)), (12, s.v), (13, .int .i64 ((s.xs.length : Nat) : Int)), (14, .int .i64 (y.1 : Int))]) (fun y => own encI ⟨some ⟨b, 0, none⟩, s.xs.length, y.2⟩ :: L) (fun y => y.1 ≤ s.xs.length ∧ y.2 = drop (s.xs.take y.1) id) (fun y => s.xs.length - y.1) (0, []) ?_ ⟨(by rfl), (by rfl), (by rfl), (by rfl), (by rfl), (by rfl), trivial⟩ ?_ ?_
  · skip
    exact ⟨Nat.zero_le _, rfl⟩
  · skip
    exact fun _ h => h
  · skip
    rintro ⟨i, ys⟩ ⟨hI, hy⟩
    dsimp only at hI hy
    have hyl : ys.length ≤ i := by rw [hy]; exact drop_take_length _ _ _
    try dsimp only
    refine Wc.seq ?_
    -- R4
    refine Wc.region ?_
    refine Wl.val (Runs.lt (by rfl) (by rfl)) rfl ?_
    refine Wl.nil ?_
    refine At.env [(1, _), (5, _), (6, _), (12, _), (13, _), (14, _), (15, _)] ⟨by rfl, by rfl, by rfl, by rfl, by rfl, by rfl, by rfl, trivial⟩ ?_
    refine At.then_ ?_
    refine Wc.seq ?_
    -- if 0
    first | refine Wc.ifd (by rfl) (fun h1 => ?_) (fun h1 => ?_) | refine Wc.ifb (by rfl) (fun h1 => ?_) (fun h1 => ?_)
    · skip
      refine Wc.skip ?_
      refine At.then_ ?_
      refine Wc.seq ?_
      refine Wc.block ?_
      refine Wc.seq ?_
      -- R5
      have hi1 : i < s.xs.length := by omega
      obtain ⟨b2, off, ha⟩ := hr.at hi1
      refine Wc.region ?_
      refine Wl.val (Runs.index us_29 sz_3 (b := b2) (off := off) (i := i) (by rw [← ha]; rfl) (by rfl) rfl hi1) rfl ?_
      refine Wl.val (Runs.loadR (e := encI) (s := s) (b := b2) (off := off) (i := i) (j := 0) (v := .int .i64 (s.xs[i])) (by rfl) fl_3 hr.there ha (List.getElem?_eq_getElem hi1) rfl) rfl ?_
      refine Wl.val (Runs.assign (by rfl)) rfl ?_
      refine Wl.nil ?_
      refine At.env [(1, _), (5, _), (6, _), (8, _), (12, _), (13, _), (14, _)] ⟨by rfl, by rfl, by rfl, by rfl, by rfl, by rfl, by rfl, trivial⟩ ?_
      refine At.then_ ?_
      refine Wc.seq ?_
      -- R6
      refine Wc.region ?_
      refine Wl.val (Runs.move (by rfl)) rfl ?_
      refine Wl.val (Runs.move (by rfl)) rfl ?_
      refine Wl.val (Runs.ne (by rfl) (by rfl)) rfl ?_
      refine Wl.nil ?_
      refine At.env [(1, _), (5, _), (6, _), (8, _), (12, _), (13, _), (14, _), (20, _)] ⟨by rfl, by rfl, by rfl, by rfl, by rfl, by rfl, by rfl, by rfl, trivial⟩ ?_
      refine At.then_ ?_
      -- if 1
      first | refine Wc.ifd (by rfl) (fun h2 => ?_) (fun h2 => ?_) | refine Wc.ifb (by rfl) (fun h2 => ?_) (fun h2 => ?_)
      · skip
        -- R7
        refine Wc.region ?_
        refine Wl.val (Runs.move (by rfl)) rfl ?_
        refine Wl.val (Runs.move (by rfl)) rfl ?_
        refine Wl.val (Runs.move (by rfl)) rfl ?_
        refine Wl.val (Runs.sliceLoA us_29 sz_3 (b := b) (off := 0) (len := s.xs.length) (cap := s.xs.length) (lo := ys.length) (by rfl) (by rfl) rfl (by omega) (by omega)) rfl ?_
        refine Wl.val (Runs.move (by rfl)) rfl ?_
        refine Wl.valX (RunsX.buildSlice (U := 3) (cs := [.int .i64 s.xs[i]]) (by rfl) (fun _ => by kernel_rfl)) rfl (fun b26 => ?_)
        try dsimp only
        refine Wl.valX (RunsX.copy (r := ⟨some ⟨b26, 0, none⟩, 1, [s.xs[i]]⟩) (ys := ys) (b := b) (off := 0) (k := ys.length) (m := s.xs.length) (dl := s.xs.length - ys.length) (dc := s.xs.length - ys.length) el_I rfl (by rfl) (by rfl) (.there .here) (.inr ⟨b26, 0, rfl, fun w hw j v hv => cell_at hw.get (by simpa [Enc.flat, encI] using hv)⟩) rfl (by simp; omega) (by simp; omega) (by omega)) rfl (fun _ => ?_)
        try dsimp only
        refine Wl.val (Runs.add (by rfl) (by rfl) (by simp only [List.length_cons, List.length_nil]; omega)) rfl ?_
        refine Wl.val (Runs.assign (by rfl)) rfl ?_
        refine Wl.nil ?_
        refine At.env [(1, _), (5, _), (6, _), (12, _), (13, _), (14, _)] ⟨by rfl, by rfl, by rfl, by rfl, by rfl, by rfl, trivial⟩ ?_
        refine At.blockNormal ?_
        refine At.then_ ?_
        -- R8
        refine Wc.region ?_
        refine Wl.val (Runs.add (by rfl) (by rfl) (by omega)) rfl ?_
        refine Wl.val (Runs.move (by rfl)) rfl ?_
        refine Wl.nil ?_
        refine At.env [(1, _), (5, _), (6, _), (12, _), (13, _), (14, _)] ⟨by rfl, by rfl, by rfl, by rfl, by rfl, by rfl, trivial⟩ ?_
        first | exact At.again (x := (i, ys)) (i + 1, ys ++ [s.xs[i]]) ⟨by show i + 1 ≤ _; omega, by show ys ++ [s.xs[i]] = _; rw [drop_take _ _ _ hi1, if_neg h2, hy]⟩ (by show s.xs.length - (i + 1) < s.xs.length - i; omega) ⟨by rfl, by rfl, by (show _ = some _; simp [Env.get]), by rfl, by rfl, by rfl, trivial⟩ (fun _ h => h.swap.drop) | exact At.again (x := (i, ys)) (i + 1, ys) ⟨by show i + 1 ≤ _; omega, by show ys = _; rw [drop_take _ _ _ hi1, if_pos (by omega), hy]⟩ (by show s.xs.length - (i + 1) < s.xs.length - i; omega) ⟨by rfl, by rfl, by rfl, by rfl, by rfl, by rfl, trivial⟩ (fun _ h => h)
      · skip
        refine Wc.skip ?_
        refine At.blockNormal ?_
        refine At.then_ ?_
        -- R8
        refine Wc.region ?_
        refine Wl.val (Runs.add (by rfl) (by rfl) (by omega)) rfl ?_
        refine Wl.val (Runs.move (by rfl)) rfl ?_
        refine Wl.nil ?_
        refine At.env [(1, _), (5, _), (6, _), (12, _), (13, _), (14, _)] ⟨by rfl, by rfl, by rfl, by rfl, by rfl, by rfl, trivial⟩ ?_
        first | exact At.again (x := (i, ys)) (i + 1, ys ++ [s.xs[i]]) ⟨by show i + 1 ≤ _; omega, by show ys ++ [s.xs[i]] = _; rw [drop_take _ _ _ hi1, if_neg h2, hy]⟩ (by show s.xs.length - (i + 1) < s.xs.length - i; omega) ⟨by rfl, by rfl, by (show _ = some _; simp [Env.get]), by rfl, by rfl, by rfl, trivial⟩ (fun _ h => h.swap.drop) | exact At.again (x := (i, ys)) (i + 1, ys) ⟨by show i + 1 ≤ _; omega, by show ys = _; rw [drop_take _ _ _ hi1, if_pos (by omega), hy]⟩ (by show s.xs.length - (i + 1) < s.xs.length - i; omega) ⟨by rfl, by rfl, by rfl, by rfl, by rfl, by rfl, trivial⟩ (fun _ h => h)
    · skip
      refine Wc.exit ?_
      repeat (first | refine At.thenExit ?_ | refine At.blockOther rfl ?_)
      refine At.blockOut ?_
      refine At.then_ ?_
      refine Wc.seq ?_
      -- R9
      refine Wc.region ?_
      refine Wl.val (Runs.move (by rfl)) rfl ?_
      refine Wl.val (Runs.move (by rfl)) rfl ?_
      refine Wl.val (Runs.sliceHi us_29 sz_3 (by rfl) (by rfl) (hi := ys.length) rfl (by omega)) rfl ?_
      refine Wl.val (Runs.assign (by rfl)) rfl ?_
      refine Wl.nil ?_
      refine At.env [(4, _)] ⟨by rfl, trivial⟩ ?_
      refine At.then_ ?_
      refine Wc.ret ?_
      repeat (first | refine At.thenRet ?_ | refine At.blockRet ?_)
      -- ret 0
      exact At.ret1 (⟨⟨some ⟨b, 0, none⟩, s.xs.length, ys⟩, by show ys = _; rw [hy, show i = s.xs.length by omega, List.take_length]⟩) rfl (by rfl) (fun _ h => h)

theorem top_spec {L : List HP} {s : Sli Int} {id : Int} (hr : Rds L encI s) (hb : s.xs.length ≤ 1000000000) : ∀ w, Sat w (L) → Calls Tryd.prog 54 #[s.v, .int .i64 id] w (Ret (α := { q : Sli Int // q.xs = top s.xs id }) (fun q => q.1.v) (fun q => own encI q.1 :: L)) := by
  refine Spec.enter (n := 11) (vs := [s.v, .int .i64 id]) Tryd.func54 rfl rfl rfl ?_
  dsimp only [enum, Nat.reduceAdd]
  refine Wc.seq ?_
  -- R0
  refine Wc.region ?_
  refine Wl.val (Runs.assign (by rfl)) rfl ?_
  refine Wl.nil ?_
  refine At.env [(0, _), (1, _)] ⟨by rfl, by rfl, trivial⟩ ?_
  refine At.then_ ?_
  refine Wc.seq ?_
  -- R1
  refine Wc.region ?_
  refine Wl.val (Runs.move (by rfl)) rfl ?_
  refine Wl.val (Runs.move (by rfl)) rfl ?_
  refine Wl.call en_87 (by rfl) (drop_spec hr hb) rfl (fun q => ?_)
  try dsimp only
  refine Wl.val (Runs.move (by rfl)) rfl ?_
  refine Wl.valX (RunsX.buildSlice (U := 3) (cs := [.int .i64 id]) (by rfl) (fun _ => by kernel_rfl)) rfl (fun b9 => ?_)
  try dsimp only
  refine Wl.valX (RunsX.append el_I rfl rfl (s := q.1) (r := ⟨some ⟨b9, 0, none⟩, 1, [id]⟩) (by rfl) (by rfl) (.there .here) (.inr ⟨b9, 0, rfl, fun w hw j v hv => cell_at hw.get (by simpa [Enc.flat, encI] using hv)⟩) (by have := drop_length s.xs id; rw [q.2]; simp only [List.length_singleton]; omega)) rfl (fun r => ?_)
  try dsimp only
  refine Wl.val (Runs.assign (by rfl)) rfl ?_
  refine Wl.nil ?_
  refine At.env [(4, _)] ⟨by rfl, trivial⟩ ?_
  refine At.then_ ?_
  refine Wc.ret ?_
  repeat (first | refine At.thenRet ?_ | refine At.blockRet ?_)
  -- ret 0
  exact At.ret1 (⟨r.1, by rw [r.2, q.2]; rfl⟩) rfl (by rfl) (fun _ h => h.swap.drop)

theorem latest_spec {L : List HP} {F : Fo} (hi : Inc L F.hp) {k : Int} {s : Srf} (hs : look F.L k = some s) : ∀ w, Sat w (L) → Calls Tryd.prog 55 #[.pointer (some ⟨s.p, 0, none⟩)] w (Ret (α := Unit) (fun _ => s.lat.v) (fun _ => L)) := by
  refine Spec.enter (n := 30) (vs := [.pointer (some ⟨s.p, 0, none⟩)]) Tryd.func55 rfl rfl rfl ?_
  dsimp only [enum, Nat.reduceAdd]
  refine Wc.seq ?_
  -- R0
  refine Wc.region ?_
  refine Wl.val (Runs.assign (by rfl)) rfl ?_
  refine Wl.nil ?_
  refine At.env [(0, _)] ⟨by rfl, trivial⟩ ?_
  refine At.then_ ?_
  refine Wc.seq ?_
  refine Wc.block ?_
  refine Wc.seq ?_
  -- R1
  refine Wc.region ?_
  refine Wl.val (Runs.move (by rfl)) rfl ?_
  refine Wl.val (Runs.nilCheck (by rfl)) rfl ?_
  refine Wl.val (Runs.field (by rfl) fa_82_3) rfl ?_
  refine Wl.val (Runs.field (by rfl) fa_37_7) rfl ?_
  refine Wl.val (Runs.load1 (by rfl) fl_4 (by first | exact (hi.srf hs) | repeat (first | exact Has.here | apply Has.there)) (by rfl)) rfl ?_
  refine Wl.val (Runs.assign (by rfl)) rfl ?_
  refine Wl.nil ?_
  refine At.env [(0, _), (3, _)] ⟨by rfl, by rfl, trivial⟩ ?_
  refine At.then_ ?_
  -- if 0
  first | refine Wc.ifd (by rfl) (fun h1 => ?_) (fun h1 => ?_) | refine Wc.ifb (by rfl) (fun h1 => ?_) (fun h1 => ?_)
  · skip
    refine Wc.seq ?_
    -- R2
    refine Wc.region ?_
    refine Wl.val (Runs.move (by rfl)) rfl ?_
    refine Wl.val (Runs.nilCheck (by rfl)) rfl ?_
    refine Wl.val (Runs.field (by rfl) fa_82_3) rfl ?_
    refine Wl.val (Runs.field (by rfl) fa_37_8) rfl ?_
    refine Wl.val (Runs.load1 (by rfl) fl_29 (by first | exact (hi.srf hs) | repeat (first | exact Has.here | apply Has.there)) (by rfl)) rfl ?_
    refine Wl.val (Runs.assign (by rfl)) rfl ?_
    refine Wl.nil ?_
    refine At.env [(2, _)] ⟨by rfl, trivial⟩ ?_
    refine At.then_ ?_
    refine Wc.ret ?_
    repeat (first | refine At.thenRet ?_ | refine At.blockRet ?_)
    -- ret 0
    exact At.ret1 () rfl (by (show _ = some _; simp [Env.get, Srf.lat, *])) (fun _ h => h)
  · skip
    refine Wc.seq ?_
    -- R3
    refine Wc.region ?_
    refine Wl.val (Runs.move (by rfl)) rfl ?_
    refine Wl.val (Runs.nilCheck (by rfl)) rfl ?_
    refine Wl.val (Runs.field (by rfl) fa_82_4) rfl ?_
    refine Wl.val (Runs.field (by rfl) fa_37_7) rfl ?_
    refine Wl.val (Runs.load1 (by rfl) fl_4 (by first | exact (hi.srf hs) | repeat (first | exact Has.here | apply Has.there)) (by rfl)) rfl ?_
    refine Wl.val (Runs.assign (by rfl)) rfl ?_
    refine Wl.nil ?_
    refine At.env [(0, _), (14, _)] ⟨by rfl, by rfl, trivial⟩ ?_
    refine At.then_ ?_
    -- if 1
    first | refine Wc.ifd (by rfl) (fun h2 => ?_) (fun h2 => ?_) | refine Wc.ifb (by rfl) (fun h2 => ?_) (fun h2 => ?_)
    · skip
      refine Wc.seq ?_
      -- R4
      refine Wc.region ?_
      refine Wl.val (Runs.move (by rfl)) rfl ?_
      refine Wl.val (Runs.nilCheck (by rfl)) rfl ?_
      refine Wl.val (Runs.field (by rfl) fa_82_4) rfl ?_
      refine Wl.val (Runs.field (by rfl) fa_37_8) rfl ?_
      refine Wl.val (Runs.load1 (by rfl) fl_29 (by first | exact (hi.srf hs) | repeat (first | exact Has.here | apply Has.there)) (by rfl)) rfl ?_
      refine Wl.val (Runs.assign (by rfl)) rfl ?_
      refine Wl.nil ?_
      refine At.env [(2, _)] ⟨by rfl, trivial⟩ ?_
      refine At.then_ ?_
      refine Wc.ret ?_
      repeat (first | refine At.thenRet ?_ | refine At.blockRet ?_)
      -- ret 1
      exact At.ret1 () rfl (by (show _ = some _; simp [Env.get, Srf.lat, *])) (fun _ h => h)
    · skip
      refine Wc.skip ?_
      refine At.blockNormal ?_
      refine At.then_ ?_
      refine Wc.seq ?_
      -- R5
      refine Wc.region ?_
      refine Wl.val (Runs.move (by rfl)) rfl ?_
      refine Wl.val (Runs.nilCheck (by rfl)) rfl ?_
      refine Wl.val (Runs.field (by rfl) fa_82_5) rfl ?_
      refine Wl.val (Runs.field (by rfl) fa_37_8) rfl ?_
      refine Wl.val (Runs.load1 (by rfl) fl_29 (by first | exact (hi.srf hs) | repeat (first | exact Has.here | apply Has.there)) (by rfl)) rfl ?_
      refine Wl.val (Runs.assign (by rfl)) rfl ?_
      refine Wl.nil ?_
      refine At.env [(2, _)] ⟨by rfl, trivial⟩ ?_
      refine At.then_ ?_
      refine Wc.ret ?_
      repeat (first | refine At.thenRet ?_ | refine At.blockRet ?_)
      -- ret 2
      exact At.ret1 () rfl (by (show _ = some _; simp [Env.get, Srf.lat, *])) (fun _ h => h)

theorem order_spec {L : List HP} {s : Srf} {l : Sli Int} : ∀ w, Sat w (cel s.p 82 s.cells :: L) → Calls Tryd.prog 53 #[.pointer (some ⟨s.p, 0, none⟩), l.v] w (Ret (α := Unit) (fun _ => .tuple #[]) (fun _ => cel s.p 82 ({ s with pe := { s.pe with ord := true, ol := l } } : Srf).cells :: L)) := by
  refine Spec.enter (n := 13) (vs := [.pointer (some ⟨s.p, 0, none⟩), l.v]) Tryd.func53 rfl rfl rfl ?_
  dsimp only [enum, Nat.reduceAdd]
  -- R0
  refine Wc.region ?_
  refine Wl.val (Runs.move (by rfl)) rfl ?_
  refine Wl.val (Runs.move (by rfl)) rfl ?_
  refine Wl.val (Runs.move (by rfl)) rfl ?_
  refine Wl.val (Runs.nilCheck (by rfl)) rfl ?_
  refine Wl.val (Runs.field (by rfl) fa_82_3) rfl ?_
  refine Wl.val (Runs.field (by rfl) fa_37_7) rfl ?_
  refine Wl.act (Acts.store (vs := [_]) (by rfl) (by rfl) sz_4 (by rfl) (by rfl) (by rfl) (by repeat (first | exact Has.here | apply Has.there)) (by exact Nat.le_of_ble_eq_true rfl) (by simp only [Srf.cells, RSt.cells, List.cons_append, List.nil_append, wrs, List.set_cons_zero, List.set_cons_succ, Nat.reduceAdd, Nat.zero_add, Nat.add_zero]; rfl) (by repeat (first | exact UpdL.cel | apply UpdL.there))) ?_
  refine Wl.val (Runs.nilCheck (by rfl)) rfl ?_
  refine Wl.val (Runs.field (by rfl) fa_82_3) rfl ?_
  refine Wl.val (Runs.field (by rfl) fa_37_8) rfl ?_
  refine Wl.act (Acts.store (vs := [_]) (by rfl) (by rfl) sz_29 (by rfl) (by rfl) (by rfl) (by repeat (first | exact Has.here | apply Has.there)) (by exact Nat.le_of_ble_eq_true rfl) (by simp only [Srf.cells, RSt.cells, List.cons_append, List.nil_append, wrs, List.set_cons_zero, List.set_cons_succ, Nat.reduceAdd, Nat.zero_add, Nat.add_zero]; rfl) (by repeat (first | exact UpdL.cel | apply UpdL.there))) ?_
  refine Wl.nil ?_
  refine At.env [] trivial ?_
  -- end 0
  exact At.end0 () rfl rfl (fun _ h => h)
end Go.Proofs.Sl

/- Printed by a program of this session out of the translation (wip/tools/gen.py): walks. -/
import Derived.Test.YtlffcinkijlaiaaDoorFh
import Derived.Test.YtlffcinkijlaiaaDoorProg
import Derived.KernelRfl
namespace Go.Proofs.Sl
open Go
set_option linter.unusedVariables false
set_option linter.unusedSimpArgs false
set_option maxRecDepth 20000
theorem en_21 : Enters Tryd.prog 21 := fun _ _ => by kernel_rfl
theorem en_55 : Enters Tryd.prog 55 := fun _ _ => by kernel_rfl
theorem en_54 : Enters Tryd.prog 54 := fun _ _ => by kernel_rfl
theorem en_53 : Enters Tryd.prog 53 := fun _ _ => by kernel_rfl

theorem sub_meas {A : List Sur} {rk : Int → Nat} (hr : Rk A rk) {x : Int} {s : Sur} (h : get A x = some s) (hx : 0 < x) : (if 0 < s.parent then rk s.parent + 1 else 0) < if 0 < x then rk x + 1 else 0 := by
  rw [if_pos hx]
  split
  · rename_i h9; have := hr x s h h9; omega
  · omega
theorem sub_lim {n : Nat} {A : List Sur} {id parent : Int} {s : Sur} (h : Lim n A) (hs : get A id = some s) : Lim n (set A id { s with parent := parent, sync := true }) :=
  h.set hs (Nat.le_refl _) (Nat.le_refl _) (h.2 s (get_mem hs))

theorem sub_spec {R : List HP} {F : Fo} {p : Nat → Addr} (hG : Gl R p) {rk : Int → Nat} (hr : Rk F.abs rk) {n : Nat} (hl : Lim n F.abs) (hn : n ≤ 1000000) {id parent : Int} : ∀ w, Sat w (F.hp :: R) → Calls Tryd.prog 11 #[.pointer (some ⟨F.f, 0, none⟩), .int .i64 id, .int .i64 parent] w (Ret (α := { F' : Fo // F'.f = F.f ∧ F'.abs = (pSub F.abs rk id parent).2 }) (fun _ => errV p (pSub F.abs rk id parent).1) (fun x => x.1.hp :: R)) := by
  refine Spec.enter (n := 72) (vs := [.pointer (some ⟨F.f, 0, none⟩), .int .i64 id, .int .i64 parent]) Tryd.func11 rfl rfl rfl ?_
  dsimp only [enum, Nat.reduceAdd]
  refine Wc.seq ?_
  -- R0
  refine Wc.region ?_
  refine Wl.val (Runs.assign (by rfl)) rfl ?_
  refine Wl.nil ?_
  refine At.env [(0, _), (1, _), (2, _)] ⟨by rfl, by rfl, by rfl, trivial⟩ ?_
  refine At.then_ ?_
  refine Wc.seq ?_
  -- R1
  refine Wd.begin0 (fun _ => true) mixed ?_
  dsimp only [List.length_cons, List.length_nil, Nat.reduceAdd]
  refine Wd.takeP 0 rfl (by kernel_rfl) (by kernel_rfl) (by kernel_rfl) (fun _ _ _ _ h => h) (Runs.move (by rfl)) rfl ?_
  refine Wd.takeP 1 rfl (by kernel_rfl) (by kernel_rfl) (by kernel_rfl) (fun _ _ _ _ h => h) (Runs.nilCheck (by rfl)) rfl ?_
  refine Wd.takeP 2 rfl (by kernel_rfl) (by kernel_rfl) (by kernel_rfl) (fun _ _ _ _ h => h) (Runs.field (by rfl) fa_78_0) rfl ?_
  refine Wd.takeR 3 rfl (by kernel_rfl) (by kernel_rfl) (by kernel_rfl) (fun _ _ _ _ h => h) (fun _ h => h) (Runs.load1 (by rfl) fl_76 (by first | exact Has.fof | exact (Has.srf hs) | repeat (first | exact Has.here | apply Has.there)) (by rfl)) rfl ?_
  refine Wd.takeP 4 rfl (by kernel_rfl) (by kernel_rfl) (by kernel_rfl) (fun _ _ _ _ h => h) (Runs.move (by rfl)) rfl ?_
  refine Wd.takeR 5 rfl (by kernel_rfl) (by kernel_rfl) (by kernel_rfl) (fun _ _ _ _ h => h) (fun _ h => h) (Runs.lookupv mp_76 (by rfl) (by rfl) (by first | exact Has.fomap | repeat (first | exact Has.imap | apply Has.there)) (look_pv F.L id)) rfl ?_
  refine Wd.takeP 6 rfl (by kernel_rfl) (by kernel_rfl) (by kernel_rfl) (fun _ _ _ _ h => h) (Runs.move (by rfl)) rfl ?_
  refine Wd.takeP 7 rfl (by kernel_rfl) (by kernel_rfl) (by kernel_rfl) (fun _ _ _ _ h => h) (Runs.nilCheck (by rfl)) rfl ?_
  refine Wd.takeP 8 rfl (by kernel_rfl) (by kernel_rfl) (by kernel_rfl) (fun _ _ _ _ h => h) (Runs.field (by rfl) fa_78_0) rfl ?_
  refine Wd.takeR 9 rfl (by kernel_rfl) (by kernel_rfl) (by kernel_rfl) (fun _ _ _ _ h => h) (fun _ h => h) (Runs.load1 (by rfl) fl_76 (by first | exact Has.fof | exact (Has.srf hs) | repeat (first | exact Has.here | apply Has.there)) (by rfl)) rfl ?_
  refine Wd.takeP 10 rfl (by kernel_rfl) (by kernel_rfl) (by kernel_rfl) (fun _ _ _ _ h => h) (Runs.move (by rfl)) rfl ?_
  refine Wd.takeR 11 rfl (by kernel_rfl) (by kernel_rfl) (by kernel_rfl) (fun _ _ _ _ h => h) (fun _ h => h) (Runs.lookupv mp_76 (by rfl) (by rfl) (by first | exact Has.fomap | repeat (first | exact Has.imap | apply Has.there)) (look_pv F.L parent)) rfl ?_
  refine Wd.takeP 12 rfl (by kernel_rfl) (by kernel_rfl) (by kernel_rfl) (fun _ _ _ _ h => h) (Runs.assign (by rfl)) rfl ?_
  refine Wd.takeP 13 rfl (by kernel_rfl) (by kernel_rfl) (by kernel_rfl) (fun _ _ _ _ h => h) (Runs.assign (by rfl)) rfl ?_
  refine Wd.done (by kernel_rfl) ?_
  refine At.env [(0, _), (1, _), (2, _), (7, _), (8, _)] ⟨by rfl, by rfl, by rfl, by rfl, by rfl, trivial⟩ ?_
  refine At.then_ ?_
  refine Wc.seq ?_
  refine Wc.block ?_
  refine Wc.seq ?_
  -- R2
  rcases hs : look F.L id with _ | s <;> simp only [pv]
  · skip
    refine Wc.region ?_
    refine Wl.val (Runs.move (by rfl)) rfl ?_
    refine Wl.val (Runs.eqp0 up_79 (by rfl)) rfl ?_
    refine Wl.val (Runs.move (by rfl)) rfl ?_
    refine Wl.unwanted (d := 25) rfl rfl rfl rfl ?_
    refine Wl.unwanted (d := 25) rfl rfl rfl rfl ?_
    refine Wl.val (Runs.pickt (by rfl) (by rfl)) rfl ?_
    refine Wl.val (Runs.assign (by rfl)) rfl ?_
    refine Wl.nil ?_
    refine At.env [(0, _), (1, _), (2, _), (7, _), (8, _), (22, _)] ⟨by rfl, by rfl, by rfl, by rfl, by rfl, by rfl, trivial⟩ ?_
    refine At.then_ ?_
    refine Wc.ift (by rfl) ?_
    refine Wc.seq ?_
    -- R3
    refine Wc.region ?_
    refine Wl.val (Runs.loadG (by rfl) fl_26 (by repeat (first | exact hG.g .object | apply CelH.there))) rfl ?_
    refine Wl.val (Runs.assign (by rfl)) rfl ?_
    refine Wl.nil ?_
    refine At.env [(6, _)] ⟨by rfl, trivial⟩ ?_
    refine At.then_ ?_
    refine Wc.ret ?_
    repeat (first | refine At.thenRet ?_ | refine At.blockRet ?_)
    -- ret 0
    exact At.ret1 (⟨F, rfl, by rw [pSub_none1 (Fo.get_none hs)]⟩) rfl (by show _ = some (errV p _); rw [pSub_none1 (Fo.get_none hs)]; rfl) (fun _ h => h)
  · skip
    rcases hq : look F.L parent with _ | s2 <;> simp only
    · skip
      refine Wc.region ?_
      refine Wl.val (Runs.move (by rfl)) rfl ?_
      refine Wl.val (Runs.eqp1 up_79 (by rfl)) rfl ?_
      refine Wl.val (Runs.move (by rfl)) rfl ?_
      refine Wl.wanted (d := 25) rfl rfl ?_
      refine Wl.val (Runs.move (by rfl)) rfl ?_
      refine Wl.wanted (d := 25) rfl rfl ?_
      refine Wl.val (Runs.eqp0 up_79 (by rfl)) rfl ?_
      refine Wl.val (Runs.pickf (by rfl) (by rfl)) rfl ?_
      refine Wl.val (Runs.assign (by rfl)) rfl ?_
      refine Wl.nil ?_
      refine At.env [(0, _), (1, _), (2, _), (7, _), (8, _), (22, _)] ⟨by rfl, by rfl, by rfl, by rfl, by rfl, by rfl, trivial⟩ ?_
      refine At.then_ ?_
      refine Wc.ift (by rfl) ?_
      refine Wc.seq ?_
      -- R3
      refine Wc.region ?_
      refine Wl.val (Runs.loadG (by rfl) fl_26 (by repeat (first | exact hG.g .object | apply CelH.there))) rfl ?_
      refine Wl.val (Runs.assign (by rfl)) rfl ?_
      refine Wl.nil ?_
      refine At.env [(6, _)] ⟨by rfl, trivial⟩ ?_
      refine At.then_ ?_
      refine Wc.ret ?_
      repeat (first | refine At.thenRet ?_ | refine At.blockRet ?_)
      -- ret 0
      exact At.ret1 (⟨F, rfl, by rw [pSub_none2 (Fo.get_some hs) (Fo.get_none hq)]⟩) rfl (by show _ = some (errV p _); rw [pSub_none2 (Fo.get_some hs) (Fo.get_none hq)]; rfl) (fun _ h => h)
    · skip
      refine Wc.region ?_
      refine Wl.val (Runs.move (by rfl)) rfl ?_
      refine Wl.val (Runs.eqp1 up_79 (by rfl)) rfl ?_
      refine Wl.val (Runs.move (by rfl)) rfl ?_
      refine Wl.wanted (d := 25) rfl rfl ?_
      refine Wl.val (Runs.move (by rfl)) rfl ?_
      refine Wl.wanted (d := 25) rfl rfl ?_
      refine Wl.val (Runs.eqp1 up_79 (by rfl)) rfl ?_
      refine Wl.val (Runs.pickf (by rfl) (by rfl)) rfl ?_
      refine Wl.val (Runs.assign (by rfl)) rfl ?_
      refine Wl.nil ?_
      refine At.env [(0, _), (1, _), (2, _), (7, _), (8, _), (22, _)] ⟨by rfl, by rfl, by rfl, by rfl, by rfl, by rfl, trivial⟩ ?_
      refine At.then_ ?_
      refine Wc.iff_ (by rfl) ?_
      refine Wc.seq ?_
      -- R4
      refine Wc.region ?_
      refine Wl.val (Runs.move (by rfl)) rfl ?_
      refine Wl.val (Runs.nilCheck (by rfl)) rfl ?_
      refine Wl.val (Runs.field (by rfl) fa_82_1) rfl ?_
      refine Wl.val (Runs.load1 (by rfl) fl_3 (by first | exact Has.fof | exact (Has.srf hs) | repeat (first | exact Has.here | apply Has.there)) (by rfl)) rfl ?_
      refine Wl.val (Runs.gt (by rfl) (by rfl)) rfl ?_
      refine Wl.val (Runs.assign (by rfl)) rfl ?_
      refine Wl.nil ?_
      refine At.env [(0, _), (1, _), (2, _), (7, _), (8, _), (30, _)] ⟨by rfl, by rfl, by rfl, by rfl, by rfl, by rfl, trivial⟩ ?_
      refine At.then_ ?_
      -- if 1
      first | refine Wc.ifd (by rfl) (fun h1 => ?_) (fun h1 => ?_) | refine Wc.ifb (by rfl) (fun h1 => ?_) (fun h1 => ?_)
      · skip
        refine Wc.seq ?_
        -- R5
        refine Wc.region ?_
        refine Wl.val (Runs.loadG (by rfl) fl_26 (by repeat (first | exact hG.g .role | apply CelH.there))) rfl ?_
        refine Wl.val (Runs.assign (by rfl)) rfl ?_
        refine Wl.nil ?_
        refine At.env [(6, _)] ⟨by rfl, trivial⟩ ?_
        refine At.then_ ?_
        refine Wc.ret ?_
        repeat (first | refine At.thenRet ?_ | refine At.blockRet ?_)
        -- ret 0
        exact At.ret1 (⟨F, rfl, by rw [pSub_role (Fo.get_some hs) (Fo.get_some hq) h1]⟩) rfl (by show _ = some (errV p _); rw [pSub_role (Fo.get_some hs) (Fo.get_some hq) h1]; rfl) (fun _ h => h)
      · skip
        refine Wc.skip ?_
        refine At.blockNormal ?_
        refine At.then_ ?_
        refine Wc.seq ?_
        refine Wc.seq ?_
        -- R6
        refine Wc.region ?_
        refine Wl.val (Runs.move (by rfl)) rfl ?_
        refine Wl.val (Runs.assign (by rfl)) rfl ?_
        refine Wl.nil ?_
        refine At.env [(0, _), (1, _), (2, _), (7, _), (8, _), (9, _)] ⟨by rfl, by rfl, by rfl, by rfl, by rfl, by rfl, trivial⟩ ?_
        refine At.then_ ?_
        refine Wc.block ?_
        refine Wc.loop (α := Int) (fun x => [(0, .pointer (some ⟨F.f, 0, none⟩)), (1, .int .i64 id), (2, .int .i64 parent), (7, .pointer (some ⟨s.p, 0, none⟩)), (8, .pointer (some ⟨s2.p, 0, none⟩)), (9, .int .i64 x)]) (fun x => F.hp :: R) (fun x => up F.abs rk id x = up F.abs rk id parent) (fun x => if 0 < x then rk x + 1 else 0) parent ?_ ⟨(by rfl), (by rfl), (by rfl), (by rfl), (by rfl), (by rfl), trivial⟩ ?_ ?_
        · skip
          exact rfl
        · skip
          exact fun _ h => h
        · skip
          intro x hI
          try dsimp only
          refine Wc.seq ?_
          refine Wc.seq ?_
          -- R7
          refine Wc.region ?_
          refine Wl.val (Runs.move (by rfl)) rfl ?_
          refine Wl.val (Runs.gt (by rfl) (by rfl)) rfl ?_
          refine Wl.nil ?_
          refine At.env [(0, _), (1, _), (2, _), (7, _), (8, _), (9, _), (39, _)] ⟨by rfl, by rfl, by rfl, by rfl, by rfl, by rfl, by rfl, trivial⟩ ?_
          refine At.then_ ?_
          -- if 2
          first | refine Wc.ifd (by rfl) (fun h2 => ?_) (fun h2 => ?_) | refine Wc.ifb (by rfl) (fun h2 => ?_) (fun h2 => ?_)
          · skip
            refine Wc.skip ?_
            refine At.then_ ?_
            refine Wc.seq ?_
            refine Wc.block ?_
            refine Wc.seq ?_
            -- R9
            refine Wc.region ?_
            refine Wl.val (Runs.move (by rfl)) rfl ?_
            refine Wl.val (Runs.move (by rfl)) rfl ?_
            refine Wl.val (Runs.eq (by rfl) (by rfl)) rfl ?_
            refine Wl.nil ?_
            refine At.env [(0, _), (1, _), (2, _), (7, _), (8, _), (9, _), (45, _)] ⟨by rfl, by rfl, by rfl, by rfl, by rfl, by rfl, by rfl, trivial⟩ ?_
            refine At.then_ ?_
            -- if 3
            first | refine Wc.ifd (by rfl) (fun h3 => ?_) (fun h3 => ?_) | refine Wc.ifb (by rfl) (fun h3 => ?_) (fun h3 => ?_)
            · skip
              refine Wc.seq ?_
              -- R10
              refine Wc.region ?_
              refine Wl.val (Runs.loadG (by rfl) fl_26 (by repeat (first | exact hG.g .place | apply CelH.there))) rfl ?_
              refine Wl.val (Runs.assign (by rfl)) rfl ?_
              refine Wl.nil ?_
              refine At.env [(6, _)] ⟨by rfl, trivial⟩ ?_
              refine At.then_ ?_
              refine Wc.ret ?_
              repeat (first | refine At.thenRet ?_ | refine At.blockRet ?_)
              -- ret 1
              exact At.ret1 (⟨F, rfl, by rw [pSub_place (Fo.get_some hs) (Fo.get_some hq) h1 (by rw [← hI]; exact up_here h2 h3)]⟩) rfl (by show _ = some (errV p _); rw [pSub_place (Fo.get_some hs) (Fo.get_some hq) h1 (by rw [← hI]; exact up_here h2 h3)]; rfl) (fun _ h => h)
            · skip
              refine Wc.skip ?_
              refine At.blockNormal ?_
              refine At.then_ ?_
              -- R8
              rcases hx : look F.L x with _ | sx
              · skip
                refine Wc.region ?_
                refine Wl.val (Runs.move (by rfl)) rfl ?_
                refine Wl.val (Runs.move (by rfl)) rfl ?_
                refine Wl.call en_21 (by rfl) (parent_none .here hx) rfl (fun x42 => ?_)
                try dsimp only
                refine Wl.val (Runs.assign (by rfl)) rfl ?_
                refine Wl.nil ?_
                refine At.env [(0, _), (1, _), (2, _), (7, _), (8, _), (9, _)] ⟨by rfl, by rfl, by rfl, by rfl, by rfl, by rfl, trivial⟩ ?_
                exact At.again 0 (by rw [← hI, up_step hr h2 h3, par_none (Fo.get_none hx)]) (by rw [if_pos h2]; simp) ⟨by rfl, by rfl, by rfl, by rfl, by rfl, by rfl, trivial⟩ (fun _ h => h)
              · skip
                refine Wc.region ?_
                refine Wl.val (Runs.move (by rfl)) rfl ?_
                refine Wl.val (Runs.move (by rfl)) rfl ?_
                refine Wl.call en_21 (by rfl) (parent_some .here hx) rfl (fun x42 => ?_)
                try dsimp only
                refine Wl.val (Runs.assign (by rfl)) rfl ?_
                refine Wl.nil ?_
                refine At.env [(0, _), (1, _), (2, _), (7, _), (8, _), (9, _)] ⟨by rfl, by rfl, by rfl, by rfl, by rfl, by rfl, trivial⟩ ?_
                exact At.again sx.parent (by rw [← hI, up_step hr h2 h3, par_some (Fo.get_some hx)]; rfl) (sub_meas hr (Fo.get_some hx) h2) ⟨by rfl, by rfl, by rfl, by rfl, by rfl, by rfl, trivial⟩ (fun _ h => h)
          · skip
            refine Wc.exit ?_
            repeat (first | refine At.thenExit ?_ | refine At.blockOther rfl ?_)
            refine At.blockOut ?_
            refine At.then_ ?_
            refine Wc.seq ?_
            -- R11
            refine Wc.mem (fun _ h => Fo.outG hs h) ?_
            refine Wc.region ?_
            refine Wl.val (Runs.move (by rfl)) rfl ?_
            refine Wl.val (Runs.move (by rfl)) rfl ?_
            refine Wl.val (Runs.move (by rfl)) rfl ?_
            refine Wl.val (Runs.nilCheck (by rfl)) rfl ?_
            refine Wl.val (Runs.field (by rfl) fa_82_1) rfl ?_
            refine Wl.act (Acts.store (vs := [_]) (by rfl) (by rfl) sz_3 (by rfl) (by rfl) (by rfl) (by repeat (first | exact Has.here | apply Has.there)) (by exact Nat.le_of_ble_eq_true rfl) (by simp only [Srf.cells, RSt.cells, List.cons_append, List.nil_append, wrs, List.set_cons_zero, List.set_cons_succ, Nat.reduceAdd, Nat.zero_add, Nat.add_zero]; rfl) (by repeat (first | exact UpdL.cel | apply UpdL.there))) ?_
            refine Wl.val (Runs.nilCheck (by rfl)) rfl ?_
            refine Wl.val (Runs.field (by rfl) fa_82_2) rfl ?_
            refine Wl.act (Acts.store (vs := [_]) (by rfl) (by rfl) sz_4 (by rfl) (by rfl) (by rfl) (by repeat (first | exact Has.here | apply Has.there)) (by exact Nat.le_of_ble_eq_true rfl) (by simp only [Srf.cells, RSt.cells, List.cons_append, List.nil_append, wrs, List.set_cons_zero, List.set_cons_succ, Nat.reduceAdd, Nat.zero_add, Nat.add_zero]; rfl) (by repeat (first | exact UpdL.cel | apply UpdL.there))) ?_
            refine Wl.nil ?_
            refine At.env [(1, _), (8, _)] ⟨by rfl, by rfl, trivial⟩ ?_
            refine At.then_ ?_
            refine Wc.seq ?_
            -- R12
            refine Wc.mem (fun _ h => Fo.backG hs { s with parent := parent, sync := true } rfl h) ?_
            generalize hF1 : F.set id { s with parent := parent, sync := true } = F1
            have hA1 : F1.abs = set F.abs id { s.abs with parent := parent, sync := true } := by rw [← hF1, Fo.set_abs]; rfl
            have hf1 : F1.f = F.f := by rw [← hF1]; rfl
            obtain ⟨p1, hp1, hpp⟩ : ∃ p1, look F1.L parent = some p1 ∧ p1.p = s2.p := by
              rw [← hF1]
              show ∃ p1, look (turned F.L id { s with parent := parent, sync := true }) parent = some p1 ∧ _
              rw [look_turned hs { s with parent := parent, sync := true } (show s.id = id from look_id hs)]
              split
              · rename_i e; subst e; rw [hs] at hq; cases hq; exact ⟨_, rfl, rfl⟩
              · exact ⟨_, hq, rfl⟩
            have hg1 : Sl.get (set F.abs id { s.abs with parent := parent, sync := true }) parent = some p1.abs := by rw [← hA1]; exact Fo.get_some hp1
            have hl1 : Lim n F1.abs := by rw [hA1]; exact sub_lim hl (Fo.get_some hs)
            obtain ⟨sm1, sm2, sm3⟩ := hl1.small hn hp1
            have hlat : p1.lat.xs.length ≤ 100000000 := by rw [Srf.lat_abs]; exact Sur.lat_len sm1.ol sm2.ol sm3.ol
            refine Wc.env [(1, _), (8, .pointer (some ⟨p1.p, 0, none⟩))] ⟨by rfl, (by rw [hpp]; rfl), trivial⟩ ?_
            refine Wc.region ?_
            refine Wl.val (Runs.move (by rfl)) rfl ?_
            refine Wl.val (Runs.move (by rfl)) rfl ?_
            refine Wl.call en_55 (by rfl) (latest_spec .here hp1) rfl (fun x56 => ?_)
            try dsimp only
            refine Wl.val (Runs.move (by rfl)) rfl ?_
            refine Wl.call en_54 (by rfl) (fun w hw => top_spec (by
                have h := Inc.rd .here hp1 ⟨w, hw⟩
                unfold Srf.lat; split
                · exact h.1.ol
                · split
                  · exact h.2.1.ol
                  · exact h.2.2.ol) (by omega) w hw) rfl (fun q => ?_)
            try dsimp only
            refine Wl.mem (fun _ h => Fo.outG hp1 h.swap) ?_
            refine Wl.call en_53 (by rfl) (order_spec (s := p1) (l := q.1)) rfl (fun x59 => ?_)
            try dsimp only
            refine Wl.nil ?_
            refine At.env [(1, _), (8, _)] ⟨by rfl, by rfl, trivial⟩ ?_
            refine At.then_ ?_
            refine Wc.seq ?_
            -- R13
            refine Wc.region ?_
            refine Wl.val (Runs.move (by rfl)) rfl ?_
            refine Wl.val (Runs.move (by rfl)) rfl ?_
            refine Wl.val (Runs.nilCheck (by rfl)) rfl ?_
            refine Wl.val (Runs.field (by rfl) fa_82_3) rfl ?_
            refine Wl.val (Runs.field (by rfl) fa_37_9) rfl ?_
            refine Wl.val (Runs.load1 (by rfl) fl_35 (by first | exact Has.fof | exact (Has.srf hs) | repeat (first | exact Has.here | apply Has.there)) (by rfl)) rfl ?_
            refine Wl.val (Runs.move (by rfl)) rfl ?_
            refine Wl.val (Runs.build (v := .agg #[.int .i64 id, .int .i64 0, .int .i64 0]) (by rfl) (fun _ => by kernel_rfl)) rfl ?_
            refine Wl.call en_56 (by rfl) (fun w hw => put_spec (s := p1.pe.pl) (c := ⟨id, 0, 0⟩) (rds_grp (M := p1.pe.rows) (by simp [RSt.rows]) (Inc.there .here) ⟨w, hw⟩) (by have := sm1.pl; omega) w hw) rfl (fun r => ?_)
            try dsimp only
            refine Wl.val (Runs.nilCheck (by rfl)) rfl ?_
            refine Wl.val (Runs.field (by rfl) fa_82_3) rfl ?_
            refine Wl.val (Runs.field (by rfl) fa_37_9) rfl ?_
            refine Wl.act (Acts.store (vs := [_]) (by rfl) (by rfl) sz_35 (by rfl) (by rfl) (by rfl) (by repeat (first | exact Has.here | apply Has.there)) (by exact Nat.le_of_ble_eq_true rfl) (by simp only [Srf.cells, RSt.cells, List.cons_append, List.nil_append, wrs, List.set_cons_zero, List.set_cons_succ, Nat.reduceAdd, Nat.zero_add, Nat.add_zero]; rfl) (by repeat (first | exact UpdL.cel | apply UpdL.there))) ?_
            refine Wl.nil ?_
            refine At.env [] trivial ?_
            refine At.then_ ?_
            refine Wc.seq ?_
            -- R14
            refine Wc.region ?_
            refine Wl.val (Runs.assign (by rfl)) rfl ?_
            refine Wl.nil ?_
            refine At.env [(6, _)] ⟨by rfl, trivial⟩ ?_
            refine At.then_ ?_
            refine Wc.ret ?_
            repeat (first | refine At.thenRet ?_ | refine At.blockRet ?_)
            -- ret 2
            exact At.ret1 (⟨F1.set parent { p1 with pe := { p1.pe with ord := true, ol := q.1, pl := r.1 } }, hf1, by
                rw [pSub_ok (Fo.get_some hs) (Fo.get_some hq) h1 (by rw [← hI]; exact up_no h2) hg1, Fo.set_abs, hA1]
                refine congrArg _ ?_
                show ({ p1 with pe := { p1.pe with ord := true, ol := q.1, pl := r.1 } } : Srf).abs = pOrd p1.abs id
                simp only [Srf.abs, RSt.abs, pOrd, q.2, r.2, Srf.lat_abs]⟩) rfl (by show _ = some (errV p _); rw [pSub_ok (Fo.get_some hs) (Fo.get_some hq) h1 (by rw [← hI]; exact up_no h2) hg1]; rfl) (fun w h => Fo.backG hp1 { p1 with pe := { p1.pe with ord := true, ol := q.1, pl := r.1 } } rfl (sub_fin h))
end Go.Proofs.Sl

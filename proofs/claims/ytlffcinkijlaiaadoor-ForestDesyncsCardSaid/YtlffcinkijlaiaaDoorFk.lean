/- Printed by a program of this session out of the translation (wip/tools/gen.py): walks. -/
import Derived.Test.YtlffcinkijlaiaaDoorFj
import Derived.Test.YtlffcinkijlaiaaDoorProg
import Derived.KernelRfl
namespace Go.Proofs.Sl
open Go
set_option linter.unusedVariables false
set_option linter.unusedSimpArgs false
set_option maxRecDepth 20000
theorem zr_29 : ∀ w, (zeroValue 29).run Tryd.prog w = .ok (.slice none 0 0) w := fun _ => by kernel_rfl
theorem zr_87 : ∀ w, (zeroValue 87).run Tryd.prog w = .ok (.nilFunc) w := fun _ => by kernel_rfl
theorem sz_87 : ∀ w, (sizeOf 87).run Tryd.prog w = .ok 1 w := fun _ => by kernel_rfl

theorem ap_all (rk : Int → Nat) (N m : Nat) : ∀ n, ApSpec rk N m n
  | 0 => fun R F f0 bf bl ba q k s B hf hs hN ht _ _ _ _ => by have := ht.top k _ (Fo.get_some hs); omega
  | n + 1 => fun R F f0 bf bl ba q k s B hf hs hN ht hl hm hb hB => ap_step (ap_all rk N m n) R F f0 bf bl ba q k s B hf hs hN ht hl hm hb hB
theorem pCommit_none {A : List Sur} {rk : Int → Nat} {N : Nat} {id : Int} (h : get A id = none) : pCommit A rk N id = ⟨some .object, [], A⟩ := by simp [pCommit, h]
theorem pCommit_syn {A : List Sur} {rk : Int → Nat} {N : Nat} {id : Int} {s : Sur} (h : get A id = some s) (h2 : syn (set A id (med s)) rk id = true) : pCommit A rk N id = ⟨none, [], set A id (med s)⟩ := by simp [pCommit, h, h2]
theorem pCommit_ok {A : List Sur} {rk : Int → Nat} {N : Nat} {id : Int} {s : Sur} (h : get A id = some s) (h2 : syn (set A id (med s)) rk id = false) : pCommit A rk N id = ⟨none, (appF rk N id ([id], set A id (med s))).1, (appF rk N id ([id], set A id (med s))).2⟩ := by simp [pCommit, h, h2]

set_option maxHeartbeats 1000000 in
theorem commit_spec {R : List HP} {F : Fo} {p : Nat → Addr} (hG : Gl R p) {rk : Int → Nat} {N m : Nat} (ht : Tr rk N F.abs) (hl : Lim m F.abs) (hm : m ≤ 1000000) (hlen : F.abs.length ≤ 500000) {id : Int} : ∀ w, Sat w (F.hp :: R) → Calls Tryd.prog 12 #[.pointer (some ⟨F.f, 0, none⟩), .int .i64 id] w (Ret (α := { y : Fo × Sli Int // y.1.f = F.f ∧ y.2.xs = (pCommit F.abs rk N id).l ∧ y.1.abs = (pCommit F.abs rk N id).A }) (fun y => .tuple #[y.1.2.v, errV p (pCommit F.abs rk N id).er]) (fun y => y.1.1.hp :: own encI y.1.2 :: R)) := by
  refine Spec.enter (n := 46) (vs := [.pointer (some ⟨F.f, 0, none⟩), .int .i64 id]) Tryd.func12 rfl rfl rfl ?_
  dsimp only [enum, Nat.reduceAdd]
  refine Wc.seq ?_
  -- R0
  refine Wc.region ?_
  refine Wl.valX (RunsX.box (cs := [_]) (by rfl) (by rfl)) rfl (fun b2 => ?_)
  try dsimp only
  refine Wl.val (Runs.assign (by rfl)) rfl ?_
  refine Wl.val (Runs.assign (by rfl)) rfl ?_
  refine Wl.nil ?_
  refine At.env [(1, _), (2, _)] ⟨by rfl, by rfl, trivial⟩ ?_
  refine At.then_ ?_
  refine Wc.seq ?_
  -- R1
  refine Wc.mem (fun _ h => h.swap) ?_
  refine Wc.region ?_
  refine Wl.val (Runs.load1 (by rfl) fl_23 (by first | exact Has.fof | exact (Has.srf hs) | repeat (first | exact Has.here | apply Has.there)) (by rfl)) rfl ?_
  refine Wl.val (Runs.nilCheck (by rfl)) rfl ?_
  refine Wl.val (Runs.field (by rfl) fa_78_0) rfl ?_
  refine Wl.val (Runs.load1 (by rfl) fl_76 (by first | exact Has.fof | exact (Has.srf hs) | repeat (first | exact Has.here | apply Has.there)) (by rfl)) rfl ?_
  refine Wl.val (Runs.move (by rfl)) rfl ?_
  refine Wl.val (Runs.lookupv mp_76 (by rfl) (by rfl) (by first | exact Has.fomap | repeat (first | exact Has.imap | apply Has.there)) (look_pv F.L id)) rfl ?_
  refine Wl.val (Runs.assign (by rfl)) rfl ?_
  refine Wl.nil ?_
  refine At.env [(1, _), (2, _), (6, _)] ⟨by rfl, by rfl, by rfl, trivial⟩ ?_
  refine At.then_ ?_
  refine Wc.seq ?_
  refine Wc.seq ?_
  -- R2
  rcases hs : look F.L id with _ | s <;> simp only [pv]
  · skip
    refine Wc.region ?_
    refine Wl.val (Runs.move (by rfl)) rfl ?_
    refine Wl.val (Runs.eqp0 up_79 (by rfl)) rfl ?_
    refine Wl.nil ?_
    refine At.env [(1, _), (2, _), (6, _), (16, _)] ⟨by rfl, by rfl, by rfl, by rfl, trivial⟩ ?_
    refine At.then_ ?_
    refine Wc.ift (by rfl) ?_
    refine Wc.seq ?_
    -- R3
    refine Wd.begin0 (fun _ => true) mixed ?_
    dsimp only [List.length_cons, List.length_nil, Nat.reduceAdd]
    refine Wd.takeR 0 rfl (by kernel_rfl) (by kernel_rfl) (by kernel_rfl) (fun _ _ _ _ h => h) (fun _ h => h) (Runs.loadG (by rfl) fl_26 (by repeat (first | exact hG.g .object | apply CelH.there))) rfl ?_
    refine Wd.takeP 1 rfl (by kernel_rfl) (by kernel_rfl) (by kernel_rfl) (fun _ _ _ _ h => h) (Runs.assign (by rfl)) rfl ?_
    refine Wd.takeP 2 rfl (by kernel_rfl) (by kernel_rfl) (by kernel_rfl) (fun _ _ _ _ h => h) (Runs.assign (by rfl)) rfl ?_
    refine Wd.done (by kernel_rfl) ?_
    refine At.env [(4, _), (5, _)] ⟨by rfl, by rfl, trivial⟩ ?_
    refine At.then_ ?_
    refine Wc.ret ?_
    repeat (first | refine At.thenRet ?_ | refine At.blockRet ?_)
    -- ret 0
    exact At.ret2 (⟨(F, .nil), rfl, by rw [pCommit_none (Fo.get_none hs)]; rfl, by rw [pCommit_none (Fo.get_none hs)]⟩) rfl (by rfl) (by show _ = some (errV p _); rw [pCommit_none (Fo.get_none hs)]; rfl) rfl (fun _ h => Sat.swap (Sat.toOwnNil (e := encI) (s := .nil) h.swap.drop rfl rfl))
  · skip
    refine Wc.region ?_
    refine Wl.val (Runs.move (by rfl)) rfl ?_
    refine Wl.val (Runs.eqp1 up_79 (by rfl)) rfl ?_
    refine Wl.nil ?_
    refine At.env [(1, _), (2, _), (6, _), (16, _)] ⟨by rfl, by rfl, by rfl, by rfl, trivial⟩ ?_
    refine At.then_ ?_
    refine Wc.iff_ (by rfl) ?_
    refine Wc.skip ?_
    refine At.then_ ?_
    refine Wc.seq ?_
    -- R4
    refine Wd.begin (fun i => !(Nat.beq i 9 || Nat.beq i 12)) ([F.hp]) mixed ?_
    dsimp only [List.length_cons, List.length_nil, Nat.reduceAdd]
    refine Wd.takeP 0 rfl (by kernel_rfl) (by kernel_rfl) (by kernel_rfl) (fun _ _ _ _ h => h) (Runs.move (by rfl)) rfl ?_
    refine Wd.takeP 1 rfl (by kernel_rfl) (by kernel_rfl) (by kernel_rfl) (fun _ _ _ _ h => h) (Runs.move (by rfl)) rfl ?_
    refine Wd.takeP 2 rfl (by kernel_rfl) (by kernel_rfl) (by kernel_rfl) (fun _ _ _ _ h => h) (Runs.nilCheck (by rfl)) rfl ?_
    refine Wd.takeP 3 rfl (by kernel_rfl) (by kernel_rfl) (by kernel_rfl) (fun _ _ _ _ h => h) (Runs.field (by rfl) fa_82_4) rfl ?_
    refine Wd.takeR 4 rfl (by kernel_rfl) (by kernel_rfl) (by kernel_rfl) (fun _ _ _ _ h => h) (fun _ h => (by repeat (first | exact Inc.here | refine Inc.there ?_) : Inc _ _) _ h) (Runs.loadN (vs := [.bool s.ca.at_, .int .i64 s.ca.bu, s.ca.da.v, s.ca.fr.v, .bool s.ca.inp, .bool s.ca.all, s.ca.re.v, .bool s.ca.ord, s.ca.ol.v, s.ca.pl.v]) (by rfl) ag_37 (by first | exact Has.fof | exact (Has.srf hs) | repeat (first | exact Has.here | apply Has.there)) (by rfl) (by rfl)) rfl ?_
    refine Wd.takeP 5 rfl (by kernel_rfl) (by kernel_rfl) (by kernel_rfl) (fun _ _ _ _ h => h) (Runs.move (by rfl)) rfl ?_
    refine Wd.takeP 6 rfl (by kernel_rfl) (by kernel_rfl) (by kernel_rfl) (fun _ _ _ _ h => h) (Runs.nilCheck (by rfl)) rfl ?_
    refine Wd.takeP 7 rfl (by kernel_rfl) (by kernel_rfl) (by kernel_rfl) (fun _ _ _ _ h => h) (Runs.field (by rfl) fa_82_3) rfl ?_
    refine Wd.takeR 8 rfl (by kernel_rfl) (by kernel_rfl) (by kernel_rfl) (fun _ _ _ _ h => h) (fun _ h => (by repeat (first | exact Inc.here | refine Inc.there ?_) : Inc _ _) _ h) (Runs.loadN (vs := [.bool s.pe.at_, .int .i64 s.pe.bu, s.pe.da.v, s.pe.fr.v, .bool s.pe.inp, .bool s.pe.all, s.pe.re.v, .bool s.pe.ord, s.pe.ol.v, s.pe.pl.v]) (by rfl) ag_37 (by first | exact Has.fof | exact (Has.srf hs) | repeat (first | exact Has.here | apply Has.there)) (by rfl) (by rfl)) rfl ?_
    refine Wd.call 9 rfl (by kernel_rfl) en_57 (by rfl) (fun _ _ => wanted_none rfl _) (fun w hw => merge_spec (Inc.rd .here hs ⟨w, hw⟩).2.1 (Inc.rd .here hs ⟨w, hw⟩).1 (hl.small hm hs).2.1 (hl.small hm hs).1 w hw) (fun h => (nomatch h)) rfl (fun r => ?_)
    try dsimp only
    refine Wd.takeP 10 rfl (by kernel_rfl) (by kernel_rfl) (by kernel_rfl) (fun _ _ _ _ h => h) (Runs.nilCheck (by rfl)) rfl ?_
    refine Wd.takeP 11 rfl (by kernel_rfl) (by kernel_rfl) (by kernel_rfl) (fun _ _ _ _ h => h) (Runs.field (by rfl) fa_82_4) rfl ?_
    refine Wd.mem (fun _ h => Fo.outR (M := r.1.rows) hs h) ?_
    refine Wd.act 12 rfl (by kernel_rfl) (Acts.store (vs := [.bool r.1.at_, .int .i64 r.1.bu, r.1.da.v, r.1.fr.v, .bool r.1.inp, .bool r.1.all, r.1.re.v, .bool r.1.ord, r.1.ol.v, r.1.pl.v]) (by rfl) (by rfl) sz_37 (by rfl) (by rfl) (by rfl) (by repeat (first | exact Has.here | apply Has.there)) (by exact Nat.le_of_ble_eq_true rfl) (by simp only [Srf.cells, RSt.cells, List.cons_append, List.nil_append, wrs, List.set_cons_zero, List.set_cons_succ, Nat.reduceAdd, Nat.zero_add, Nat.add_zero]; rfl) (by repeat (first | exact UpdL.cel | apply UpdL.there))) (fun h => (nomatch h)) ?_
    refine Wd.done (by kernel_rfl) ?_
    refine At.env [(1, _), (2, _), (6, _)] ⟨by rfl, by rfl, by rfl, trivial⟩ ?_
    refine At.then_ ?_
    refine Wc.seq ?_
    -- R5
    refine Wc.region ?_
    refine Wl.val (Runs.move (by rfl)) rfl ?_
    refine Wl.val (Runs.build (v := .agg #[.bool false, .int .i64 0, .slice none 0 0, .slice none 0 0, .bool false, .bool false, .slice none 0 0, .bool false, .slice none 0 0, .slice none 0 0]) (by rfl) (fun _ => by kernel_rfl)) rfl ?_
    refine Wl.val (Runs.nilCheck (by rfl)) rfl ?_
    refine Wl.val (Runs.field (by rfl) fa_82_3) rfl ?_
    refine Wl.act (Acts.store (vs := [.bool false, .int .i64 0, .slice none 0 0, .slice none 0 0, .bool false, .bool false, .slice none 0 0, .bool false, .slice none 0 0, .slice none 0 0]) (by rfl) (by rfl) sz_37 (by rfl) (by rfl) (by rfl) (by repeat (first | exact Has.here | apply Has.there)) (by exact Nat.le_of_ble_eq_true rfl) (by simp only [Srf.cells, RSt.cells, List.cons_append, List.nil_append, wrs, List.set_cons_zero, List.set_cons_succ, Nat.reduceAdd, Nat.zero_add, Nat.add_zero]; rfl) (by repeat (first | exact UpdL.cel | apply UpdL.there))) ?_
    refine Wl.nil ?_
    refine At.env [(1, _), (2, _), (6, _)] ⟨by rfl, by rfl, by rfl, trivial⟩ ?_
    refine At.then_ ?_
    refine Wc.seq ?_
    refine Wc.seq ?_
    -- R6
    refine Wc.mem (fun _ h => Fo.backMe hs r.1 h) ?_
    have hA1 : (F.set id { s with ca := r.1, pe := .zero }).abs = set F.abs id (med s.abs) := by
      rw [Fo.set_abs]
      refine congrArg _ ?_
      show ({ s with ca := r.1, pe := .zero } : Srf).abs = med s.abs
      simp only [Srf.abs, r.2]; rfl
    have hk1 : look (F.set id { s with ca := r.1, pe := .zero }).L id = some { s with ca := r.1, pe := .zero } := by
      show look (turned F.L id _) id = _
      rw [look_turned hs { s with ca := r.1, pe := .zero } (show s.id = id from look_id hs), if_pos rfl]
    have hf1 : (F.set id { s with ca := r.1, pe := .zero }).f = F.f := rfl
    generalize F.set id { s with ca := r.1, pe := .zero } = F1 at hA1 hk1 hf1
    have ht1 : Tr rk N F1.abs := by rw [hA1]; exact med_tr ht (Fo.get_some hs)
    have hl1 : Lim m F1.abs := by rw [hA1]; exact med_lim hl (Fo.get_some hs)
    have hle : phi F1.abs ≤ 500000 := by have := phi_le F1.abs; rw [hA1, set_length] at this; rw [hA1]; omega
    refine Wc.region ?_
    refine Wl.val (Runs.load1 (by rfl) fl_23 (by first | exact Has.fof | exact (Has.srf hs) | repeat (first | exact Has.here | apply Has.there)) (by rfl)) rfl ?_
    refine Wl.val (Runs.move (by rfl)) rfl ?_
    refine Wl.call en_46 (by rfl) (synced' hf1 .here ht1.rank) rfl (fun x36 => ?_)
    try dsimp only
    refine Wl.nil ?_
    refine At.env [(1, _), (2, _), (6, _), (36, _)] ⟨by rfl, by rfl, by rfl, by rfl, trivial⟩ ?_
    refine At.then_ ?_
    -- if 1
    first | refine Wc.ifd (by rfl) (fun h1 => ?_) (fun h1 => ?_) | refine Wc.ifb (by rfl) (fun h1 => ?_) (fun h1 => ?_)
    · skip
      refine Wc.seq ?_
      -- R7
      refine Wc.region ?_
      refine Wl.val (Runs.assign (by rfl)) rfl ?_
      refine Wl.val (Runs.assign (by rfl)) rfl ?_
      refine Wl.nil ?_
      refine At.env [(4, _), (5, _)] ⟨by rfl, by rfl, trivial⟩ ?_
      refine At.then_ ?_
      refine Wc.ret ?_
      repeat (first | refine At.thenRet ?_ | refine At.blockRet ?_)
      -- ret 0
      exact At.ret2 (⟨(F1, .nil), hf1, by rw [pCommit_syn (Fo.get_some hs) (by rw [← hA1]; assumption)]; rfl, by rw [pCommit_syn (Fo.get_some hs) (by rw [← hA1]; assumption)]; exact hA1⟩) rfl (by rfl) (by show _ = some (errV p _); rw [pCommit_syn (Fo.get_some hs) (by rw [← hA1]; assumption)]; rfl) rfl (fun _ h => Sat.swap (Sat.toOwnNil (e := encI) (s := .nil) h.swap.drop rfl rfl))
    · skip
      refine Wc.skip ?_
      refine At.then_ ?_
      refine Wc.seq ?_
      -- R8
      refine Wc.region ?_
      refine Wl.valX (RunsX.alloc (cs := [.slice none 0 0]) zr_29 rfl) rfl (fun b7 => ?_)
      try dsimp only
      refine Wl.nil ?_
      refine At.env [(1, _), (2, _), (6, _), (7, _)] ⟨by rfl, by rfl, by rfl, by rfl, trivial⟩ ?_
      refine At.then_ ?_
      refine Wc.seq ?_
      -- R9
      refine Wc.region ?_
      refine Wl.valX (RunsX.alloc (cs := [.nilFunc]) zr_87 rfl) rfl (fun b8 => ?_)
      try dsimp only
      refine Wl.nil ?_
      refine At.env [(1, _), (2, _), (6, _), (7, _), (8, _)] ⟨by rfl, by rfl, by rfl, by rfl, by rfl, trivial⟩ ?_
      refine At.then_ ?_
      refine Wc.seq ?_
      -- R10
      refine Wc.region ?_
      refine Wl.val (Runs.makeFunc (by rfl)) rfl ?_
      refine Wl.act (Acts.store (vs := [_]) (by rfl) (by rfl) sz_87 (by rfl) (by rfl) (by rfl) (by repeat (first | exact Has.here | apply Has.there)) (by exact Nat.le_of_ble_eq_true rfl) (by simp only [Srf.cells, RSt.cells, List.cons_append, List.nil_append, wrs, List.set_cons_zero, List.set_cons_succ, Nat.reduceAdd, Nat.zero_add, Nat.add_zero]; rfl) (by repeat (first | exact UpdL.cel | apply UpdL.there))) ?_
      refine Wl.nil ?_
      refine At.env [(1, _), (6, _), (7, _), (8, _)] ⟨by rfl, by rfl, by rfl, by rfl, trivial⟩ ?_
      refine At.then_ ?_
      refine Wc.seq ?_
      -- R11
      refine Wc.region ?_
      refine Wl.val (Runs.load1 (by rfl) fl_29 (by first | exact Has.fof | exact (Has.srf hs) | repeat (first | exact Has.here | apply Has.there)) (by rfl)) rfl ?_
      refine Wl.val (Runs.move (by rfl)) rfl ?_
      refine Wl.valX (RunsX.buildSlice (U := 3) (cs := [.int .i64 id]) (by rfl) (fun _ => by kernel_rfl)) rfl (fun b40 => ?_)
      try dsimp only
      refine Wl.mem (fun _ h => Sat.toOwnNil (e := encI) (s := .nil) h rfl rfl) ?_
      refine Wl.valX (RunsX.append el_I rfl rfl (s := .nil) (r := ⟨some ⟨b40, 0, none⟩, 1, [id]⟩) (by rfl) (by rfl) .here (.inr ⟨b40, 0, rfl, fun w hw j v hv => cell_at hw.get (by simpa [Enc.flat, encI] using hv)⟩) (by simp [Sli.nil])) rfl (fun qn => ?_)
      try dsimp only
      refine Wl.act (Acts.store (vs := [_]) (by rfl) (by rfl) sz_29 (by rfl) (by rfl) (by rfl) (by repeat (first | exact Has.here | apply Has.there)) (by exact Nat.le_of_ble_eq_true rfl) (by simp only [Srf.cells, RSt.cells, List.cons_append, List.nil_append, wrs, List.set_cons_zero, List.set_cons_succ, Nat.reduceAdd, Nat.zero_add, Nat.add_zero]; rfl) (by repeat (first | exact UpdL.cel | apply UpdL.there))) ?_
      refine Wl.nil ?_
      refine At.env [(6, _), (7, _), (8, _)] ⟨by rfl, by rfl, by rfl, trivial⟩ ?_
      refine At.then_ ?_
      refine Wc.seq ?_
      -- R12
      have hq : qn.1.xs = [id] := qn.2
      refine Wc.region ?_
      refine Wl.mem (L' := (F1).hp :: cel b7 29 [(qn.1).v] :: own encI (qn.1) :: cel b2 23 [.pointer (some ⟨F.f, 0, none⟩)] :: cel b8 87 [.func (.func 58) #[] #[.pointer (some ⟨b2, 0, none⟩), .pointer (some ⟨b7, 0, none⟩), .pointer (some ⟨b8, 0, none⟩)]] :: R) (fun _ h => Pick.sat (by refine Pick.cons (by repeat (first | exact Rem.here | apply Rem.there)) ?_; refine Pick.cons (by repeat (first | exact Rem.here | apply Rem.there)) ?_; refine Pick.cons (by repeat (first | exact Rem.here | apply Rem.there)) ?_; refine Pick.cons (by repeat (first | exact Rem.here | apply Rem.there)) ?_; refine Pick.cons (by repeat (first | exact Rem.here | apply Rem.there)) ?_; repeat (first | exact Pick.refl | refine Pick.drop ?_)) h) ?_
      refine Wl.val (Runs.load1 (by rfl) fl_87 (by first | exact Has.fof | exact (Has.srf hs) | repeat (first | exact Has.here | apply Has.there)) (by rfl)) rfl ?_
      refine Wl.val (Runs.move (by rfl)) rfl ?_
      refine Wl.callv (vs := [_]) (cap := [.pointer (some ⟨b2, 0, none⟩), .pointer (some ⟨b7, 0, none⟩), .pointer (some ⟨b8, 0, none⟩)]) (by rfl) en_58 (by rfl) (ap_all rk N m N _ F1 F.f b2 b7 b8 qn.1 id { s with ca := r.1, pe := .zero } 1000000 hf1 hk1 (by omega) ht1 hl1 hm (by rw [hq, List.length_singleton]; omega) (Nat.le_refl _)) rfl (fun y2 => ?_)
      try dsimp only
      refine Wl.nil ?_
      refine At.env [(7, _)] ⟨by rfl, trivial⟩ ?_
      refine At.then_ ?_
      refine Wc.seq ?_
      -- R13
      have hy : (y2.1.2.xs, y2.1.1.abs) = appF rk N id ([id], set F.abs id (med s.abs)) := by rw [y2.2.2.1, hq, hA1]
      have hns : syn (set F.abs id (med s.abs)) rk id = false := by rw [← hA1]; assumption
      refine Wc.region ?_
      refine Wl.val (Runs.load1 (by rfl) fl_29 (by first | exact Has.fof | exact (Has.srf hs) | repeat (first | exact Has.here | apply Has.there)) (by rfl)) rfl ?_
      refine Wl.val (Runs.assign (by rfl)) rfl ?_
      refine Wl.val (Runs.assign (by rfl)) rfl ?_
      refine Wl.nil ?_
      refine At.env [(4, _), (5, _)] ⟨by rfl, by rfl, trivial⟩ ?_
      refine At.then_ ?_
      refine Wc.ret ?_
      repeat (first | refine At.thenRet ?_ | refine At.blockRet ?_)
      -- ret 1
      exact At.ret2 (⟨y2.1, y2.2.1, by rw [pCommit_ok (Fo.get_some hs) hns, ← hy], by rw [pCommit_ok (Fo.get_some hs) hns, ← hy]⟩) rfl (by rfl) (by show _ = some (errV p _); rw [pCommit_ok (Fo.get_some hs) hns]; rfl) rfl (fun _ h => Pick.sat (by refine Pick.cons (by repeat (first | exact Rem.here | apply Rem.there)) ?_; refine Pick.cons (by repeat (first | exact Rem.here | apply Rem.there)) ?_; repeat (first | exact Pick.refl | refine Pick.drop ?_)) h)
end Go.Proofs.Sl

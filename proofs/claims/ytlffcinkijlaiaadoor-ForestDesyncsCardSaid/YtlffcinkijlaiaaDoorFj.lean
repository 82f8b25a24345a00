/- Printed by a program of this session out of the translation (wip/tools/gen.py): walks. -/
import Derived.Test.YtlffcinkijlaiaaDoorFi
import Derived.Test.YtlffcinkijlaiaaDoorSlCommit
import Derived.Test.YtlffcinkijlaiaaDoorProg
import Derived.KernelRfl
namespace Go.Proofs.Sl
open Go
set_option linter.unusedVariables false
set_option linter.unusedSimpArgs false
set_option maxRecDepth 20000
theorem en_58 : Enters Tryd.prog 58 := fun _ _ => by kernel_rfl
theorem en_59 : Enters Tryd.prog 59 := fun _ _ => by kernel_rfl
theorem fl_23 : Flat Tryd.prog 23 := fun _ => by kernel_rfl
theorem en_46 : Enters Tryd.prog 46 := fun _ _ => by kernel_rfl
theorem en_60 : Enters Tryd.prog 60 := fun _ _ => by kernel_rfl
theorem fl_87 : Flat Tryd.prog 87 := fun _ => by kernel_rfl

theorem not_t {b : Bool} (h : (!b) = true) : b = false := by cases b <;> simp_all
theorem not_f {b : Bool} (h : (!b) = false) : b = true := by cases b <;> simp_all
theorem cn_told {t : Srf} (h : (!t.ca.abs.none) = true) : cn t.abs = 1 := if_neg (by rw [show t.abs.ca.none = t.ca.abs.none from rfl, not_t h]; simp)
theorem synced' {L : List HP} {F : Fo} {f0 : Nat} (hf : F.f = f0) {rk : Int → Nat} (hi : Inc L F.hp) (hr : Rk F.abs rk) {id : Int} : ∀ w, Sat w L → Calls Tryd.prog 46 #[.pointer (some ⟨f0, 0, none⟩), .int .i64 id] w (Ret (α := Unit) (fun _ => .bool (syn F.abs rk id)) (fun _ => L)) := by
  subst hf; exact synced_spec hi hr
def ApSpec (rk : Int → Nat) (N m n : Nat) : Prop := ∀ (R : List HP) (F : Fo) (f0 bf bl ba : Nat) (q : Sli Int) (k : Int) (s : Srf) (B : Nat), F.f = f0 → look F.L k = some s → N - rk k ≤ n → Tr rk N F.abs → Lim m F.abs → m ≤ 1000000 → q.xs.length + phi F.abs ≤ B + cn s.abs → B ≤ 1000000 → ∀ w, Sat w ((F).hp :: cel bl 29 [(q).v] :: own encI (q) :: cel bf 23 [.pointer (some ⟨f0, 0, none⟩)] :: cel ba 87 [.func (.func 58) #[] #[.pointer (some ⟨bf, 0, none⟩), .pointer (some ⟨bl, 0, none⟩), .pointer (some ⟨ba, 0, none⟩)]] :: R) → Calls Tryd.prog 58 #[.pointer (some ⟨s.p, 0, none⟩), .pointer (some ⟨bf, 0, none⟩), .pointer (some ⟨bl, 0, none⟩), .pointer (some ⟨ba, 0, none⟩)] w (Ret (α := { y : Fo × Sli Int // y.1.f = f0 ∧ (y.2.xs, y.1.abs) = appF rk n k (q.xs, F.abs) ∧ ∀ j, rk j ≤ rk k → j ≠ k → look y.1.L j = look F.L j }) (fun _ => .tuple #[]) (fun y => (y.1.1).hp :: cel bl 29 [(y.1.2).v] :: own encI (y.1.2) :: cel bf 23 [.pointer (some ⟨f0, 0, none⟩)] :: cel ba 87 [.func (.func 58) #[] #[.pointer (some ⟨bf, 0, none⟩), .pointer (some ⟨bl, 0, none⟩), .pointer (some ⟨ba, 0, none⟩)]] :: R))

set_option maxHeartbeats 1000000 in
theorem ap_step {rk : Int → Nat} {N m n : Nat} (ih : ApSpec rk N m n) (R : List HP) (F : Fo) (f0 bf bl ba : Nat) (q : Sli Int) (k : Int) (s : Srf) (B : Nat) (hf : F.f = f0) (hs : look F.L k = some s) (hN : N - rk k ≤ n + 1) (ht : Tr rk N F.abs) (hl : Lim m F.abs) (hm : m ≤ 1000000) (hb : q.xs.length + phi F.abs ≤ B + cn s.abs) (hB : B ≤ 1000000) : ∀ w, Sat w ((F).hp :: cel bl 29 [(q).v] :: own encI (q) :: cel bf 23 [.pointer (some ⟨f0, 0, none⟩)] :: cel ba 87 [.func (.func 58) #[] #[.pointer (some ⟨bf, 0, none⟩), .pointer (some ⟨bl, 0, none⟩), .pointer (some ⟨ba, 0, none⟩)]] :: R) → Calls Tryd.prog 58 #[.pointer (some ⟨s.p, 0, none⟩), .pointer (some ⟨bf, 0, none⟩), .pointer (some ⟨bl, 0, none⟩), .pointer (some ⟨ba, 0, none⟩)] w (Ret (α := { y : Fo × Sli Int // y.1.f = f0 ∧ (y.2.xs, y.1.abs) = appF rk (n + 1) k (q.xs, F.abs) ∧ ∀ j, rk j ≤ rk k → j ≠ k → look y.1.L j = look F.L j }) (fun _ => .tuple #[]) (fun y => (y.1.1).hp :: cel bl 29 [(y.1.2).v] :: own encI (y.1.2) :: cel bf 23 [.pointer (some ⟨f0, 0, none⟩)] :: cel ba 87 [.func (.func 58) #[] #[.pointer (some ⟨bf, 0, none⟩), .pointer (some ⟨bl, 0, none⟩), .pointer (some ⟨ba, 0, none⟩)]] :: R)) := by
  refine Spec.enter (n := 66) (vs := [.pointer (some ⟨s.p, 0, none⟩), .pointer (some ⟨bf, 0, none⟩), .pointer (some ⟨bl, 0, none⟩), .pointer (some ⟨ba, 0, none⟩)]) Tryd.func58 rfl rfl rfl ?_
  dsimp only [enum, Nat.reduceAdd]
  refine Wc.seq ?_
  -- R0
  refine Wd.begin (fun i => !(Nat.beq i 9 || Nat.beq i 12)) ([F.hp]) mixed ?_
  dsimp only [List.length_cons, List.length_nil, Nat.reduceAdd]
  refine Wd.takeP 0 rfl (by kernel_rfl) (by kernel_rfl) (by kernel_rfl) (fun _ _ _ _ h => h) (Runs.move (by rfl)) rfl ?_
  refine Wd.takeP 1 rfl (by kernel_rfl) (by kernel_rfl) (by kernel_rfl) (fun _ _ _ _ h => h) (Runs.move (by rfl)) rfl ?_
  refine Wd.takeP 2 rfl (by kernel_rfl) (by kernel_rfl) (by kernel_rfl) (fun _ _ _ _ h => h) (Runs.nilCheck (by rfl)) rfl ?_
  refine Wd.takeP 3 rfl (by kernel_rfl) (by kernel_rfl) (by kernel_rfl) (fun _ _ _ _ h => h) (Runs.field (by rfl) fa_82_5) rfl ?_
  refine Wd.takeR 4 rfl (by kernel_rfl) (by kernel_rfl) (by kernel_rfl) (fun _ _ _ _ h => h) (fun _ h => (by repeat (first | exact Inc.here | refine Inc.there ?_) : Inc _ _) _ h) (Runs.loadN (vs := [.bool s.cu.at_, .int .i64 s.cu.bu, s.cu.da.v, s.cu.fr.v, .bool s.cu.inp, .bool s.cu.all, s.cu.re.v, .bool s.cu.ord, s.cu.ol.v, s.cu.pl.v]) (by rfl) ag_37 (by first | exact (Has.srf hs) | exact (Has.srf (s := { s with cu := r.1, ca := .zero }) hk1) | exact (Has.srf hc) | exact (Has.fof' hfi) | repeat (first | exact Has.here | apply Has.there)) (by rfl) (by rfl)) rfl ?_
  refine Wd.takeP 5 rfl (by kernel_rfl) (by kernel_rfl) (by kernel_rfl) (fun _ _ _ _ h => h) (Runs.move (by rfl)) rfl ?_
  refine Wd.takeP 6 rfl (by kernel_rfl) (by kernel_rfl) (by kernel_rfl) (fun _ _ _ _ h => h) (Runs.nilCheck (by rfl)) rfl ?_
  refine Wd.takeP 7 rfl (by kernel_rfl) (by kernel_rfl) (by kernel_rfl) (fun _ _ _ _ h => h) (Runs.field (by rfl) fa_82_4) rfl ?_
  refine Wd.takeR 8 rfl (by kernel_rfl) (by kernel_rfl) (by kernel_rfl) (fun _ _ _ _ h => h) (fun _ h => (by repeat (first | exact Inc.here | refine Inc.there ?_) : Inc _ _) _ h) (Runs.loadN (vs := [.bool s.ca.at_, .int .i64 s.ca.bu, s.ca.da.v, s.ca.fr.v, .bool s.ca.inp, .bool s.ca.all, s.ca.re.v, .bool s.ca.ord, s.ca.ol.v, s.ca.pl.v]) (by rfl) ag_37 (by first | exact (Has.srf hs) | exact (Has.srf (s := { s with cu := r.1, ca := .zero }) hk1) | exact (Has.srf hc) | exact (Has.fof' hfi) | repeat (first | exact Has.here | apply Has.there)) (by rfl) (by rfl)) rfl ?_
  refine Wd.call 9 rfl (by kernel_rfl) en_59 (by rfl) (fun _ _ => wanted_none rfl _) (fun w hw => apply_spec (Inc.rd .here hs ⟨w, hw⟩).2.2 (Inc.rd .here hs ⟨w, hw⟩).2.1 (hl.small hm hs).2.2 (hl.small hm hs).2.1 w hw) (fun h => (nomatch h)) rfl (fun r => ?_)
  try dsimp only
  refine Wd.takeP 10 rfl (by kernel_rfl) (by kernel_rfl) (by kernel_rfl) (fun _ _ _ _ h => h) (Runs.nilCheck (by rfl)) rfl ?_
  refine Wd.takeP 11 rfl (by kernel_rfl) (by kernel_rfl) (by kernel_rfl) (fun _ _ _ _ h => h) (Runs.field (by rfl) fa_82_5) rfl ?_
  refine Wd.mem (fun _ h => Fo.outR (M := r.1.rows) hs h) ?_
  refine Wd.act 12 rfl (by kernel_rfl) (Acts.store (vs := [.bool r.1.at_, .int .i64 r.1.bu, r.1.da.v, r.1.fr.v, .bool r.1.inp, .bool r.1.all, r.1.re.v, .bool r.1.ord, r.1.ol.v, r.1.pl.v]) (by rfl) (by rfl) sz_37 (by rfl) (by rfl) (by rfl) (by repeat (first | exact Has.here | apply Has.there)) (by exact Nat.le_of_ble_eq_true rfl) (by simp only [Srf.cells, RSt.cells, List.cons_append, List.nil_append, wrs, List.set_cons_zero, List.set_cons_succ, Nat.reduceAdd, Nat.zero_add, Nat.add_zero]; rfl) (by repeat (first | exact UpdL.cel | apply UpdL.there))) (fun h => (nomatch h)) ?_
  refine Wd.done (by kernel_rfl) ?_
  refine At.env [(0, _), (1, _), (2, _), (3, _)] ⟨by rfl, by rfl, by rfl, by rfl, trivial⟩ ?_
  refine At.then_ ?_
  refine Wc.seq ?_
  -- R1
  refine Wc.region ?_
  refine Wl.val (Runs.move (by rfl)) rfl ?_
  refine Wl.val (Runs.build (v := .agg #[.bool false, .int .i64 0, .slice none 0 0, .slice none 0 0, .bool false, .bool false, .slice none 0 0, .bool false, .slice none 0 0, .slice none 0 0]) (by rfl) (fun _ => by kernel_rfl)) rfl ?_
  refine Wl.val (Runs.nilCheck (by rfl)) rfl ?_
  refine Wl.val (Runs.field (by rfl) fa_82_4) rfl ?_
  refine Wl.act (Acts.store (vs := [.bool false, .int .i64 0, .slice none 0 0, .slice none 0 0, .bool false, .bool false, .slice none 0 0, .bool false, .slice none 0 0, .slice none 0 0]) (by rfl) (by rfl) sz_37 (by rfl) (by rfl) (by rfl) (by repeat (first | exact Has.here | apply Has.there)) (by exact Nat.le_of_ble_eq_true rfl) (by simp only [Srf.cells, RSt.cells, List.cons_append, List.nil_append, wrs, List.set_cons_zero, List.set_cons_succ, Nat.reduceAdd, Nat.zero_add, Nat.add_zero]; rfl) (by repeat (first | exact UpdL.cel | apply UpdL.there))) ?_
  refine Wl.nil ?_
  refine At.env [(0, _), (1, _), (2, _), (3, _)] ⟨by rfl, by rfl, by rfl, by rfl, trivial⟩ ?_
  refine At.then_ ?_
  refine Wc.seq ?_
  -- R2
  refine Wc.mem (fun _ h => Fo.backAp hs r.1 h) ?_
  have hA1 : (F.set k { s with cu := r.1, ca := .zero }).abs = set F.abs k (apd s.abs) := by
    rw [Fo.set_abs]
    refine congrArg _ ?_
    show ({ s with cu := r.1, ca := .zero } : Srf).abs = apd s.abs
    simp only [Srf.abs, r.2]; rfl
  have hk1 : look (F.set k { s with cu := r.1, ca := .zero }).L k = some { s with cu := r.1, ca := .zero } := by
    show look (turned F.L k _) k = _
    rw [look_turned hs { s with cu := r.1, ca := .zero } (show s.id = k from look_id hs), if_pos rfl]
  have hun1 : ∀ j, j ≠ k → look (F.set k { s with cu := r.1, ca := .zero }).L j = look F.L j := fun j hj => by
    show look (turned F.L k _) j = _
    rw [look_turned hs { s with cu := r.1, ca := .zero } (show s.id = k from look_id hs), if_neg hj]
  have hf1 : (F.set k { s with cu := r.1, ca := .zero }).f = f0 := hf
  generalize F.set k { s with cu := r.1, ca := .zero } = F1 at hA1 hk1 hun1 hf1
  have hro : r.1.ol.xs = (s.abs.cu.apply s.abs.ca).ol := congrArg PSt.ol r.2
  have hol : r.1.ol.xs.length ≤ 100000000 := by
    have h := hl.2 _ (get_mem (Fo.get_some hs))
    have h2 := (apply_lim h.2.2 h.2.1).1
    rw [hro]; omega
  have hres : Res rk N m B (q.xs, F1.abs) := by
    rw [hA1]; exact apd_res (x := (q.xs, F.abs)) (Fo.get_some hs) ht hl hb
  have hp1 : Sl.get F1.abs k = some (apd s.abs) := by
    rw [Fo.get_some hk1]; simp only [Srf.abs, r.2]; rfl
  have happ : appF rk (n + 1) k (q.xs, F.abs) = r.1.ol.xs.foldl (stp rk (appF rk n)) (q.xs, F1.abs) := by
    simp only [appF, Fo.get_some hs]; rw [hA1, hro]
  have hG : ∀ i, Res rk N m B (((r.1.ol.xs).take (i)).foldl (stp rk (appF rk n)) (q.xs, F1.abs)) ∧ ∀ j, rk j ≤ rk k → Sl.get (((r.1.ol.xs).take (i)).foldl (stp rk (appF rk n)) (q.xs, F1.abs)).2 j = Sl.get F1.abs j := fun i => fold_ok (app_ok rk N m n) hN _ _ (fun id hid => by
    show id ∈ (s.abs.cu.apply s.abs.ca).ol
    rw [← hro]; exact List.mem_of_mem_take hid) hp1 hres
  refine Wc.region ?_
  refine Wl.val (Runs.move (by rfl)) rfl ?_
  refine Wl.val (Runs.nilCheck (by rfl)) rfl ?_
  refine Wl.val (Runs.field (by rfl) fa_82_5) rfl ?_
  refine Wl.val (Runs.field (by rfl) fa_37_8) rfl ?_
  refine Wl.val (Runs.load1 (by rfl) fl_29 (by first | exact (Has.srf hs) | exact (Has.srf (s := { s with cu := r.1, ca := .zero }) hk1) | exact (Has.srf hc) | exact (Has.fof' hfi) | repeat (first | exact Has.here | apply Has.there)) (by rfl)) rfl ?_
  refine Wl.val (Runs.lenSlice us_29 rfl (p := r.1.ol.a) (l := r.1.ol.xs.length) (c := r.1.ol.cap) (by rfl)) rfl ?_
  refine Wl.val (Runs.move (by rfl)) rfl ?_
  refine Wl.nil ?_
  refine At.env [(1, _), (2, _), (3, _), (28, _), (29, _), (30, _)] ⟨by rfl, by rfl, by rfl, by rfl, by rfl, by rfl, trivial⟩ ?_
  refine At.then_ ?_
  refine Wc.block ?_
  refine Wc.loop (α := Nat × Fo × Sli Int) (fun y => [(1, .pointer (some ⟨bf, 0, none⟩)), (2, .pointer (some ⟨bl, 0, none⟩)), (3, .pointer (some ⟨ba, 0, none⟩)), (28, r.1.ol.v), (29, .int .i64 ((r.1.ol.xs.length : Nat) : Int)), (30, .int .i64 (y.1 : Int))]) (fun y => (y.2.1).hp :: cel bl 29 [(y.2.2).v] :: own encI (y.2.2) :: cel bf 23 [.pointer (some ⟨f0, 0, none⟩)] :: cel ba 87 [.func (.func 58) #[] #[.pointer (some ⟨bf, 0, none⟩), .pointer (some ⟨bl, 0, none⟩), .pointer (some ⟨ba, 0, none⟩)]] :: R) (fun y => y.1 ≤ r.1.ol.xs.length ∧ y.2.1.f = f0 ∧ (y.2.2.xs, y.2.1.abs) = ((r.1.ol.xs).take (y.1)).foldl (stp rk (appF rk n)) (q.xs, F1.abs) ∧ ∀ j, rk j ≤ rk k → look y.2.1.L j = look F1.L j) (fun y => r.1.ol.xs.length - y.1) (0, F1, q) ?_ ⟨(by rfl), (by rfl), (by rfl), (by rfl), (by rfl), (by rfl), trivial⟩ ?_ ?_
  · skip
    exact ⟨Nat.zero_le _, hf1, rfl, fun _ _ => rfl⟩
  · skip
    exact fun _ h => h
  · skip
    rintro ⟨i, Fi, qi⟩ ⟨hI, hfi, hGi, hun⟩
    dsimp only at hI hfi hGi hun
    have hki := (hun k (Nat.le_refl _)).trans hk1
    have hRi : Res rk N m B (qi.xs, Fi.abs) := by rw [hGi]; exact (hG i).1
    have hlen : qi.xs.length + phi Fi.abs ≤ B := hRi.len
    try dsimp only
    refine Wc.seq ?_
    -- R3
    refine Wc.region ?_
    refine Wl.val (Runs.lt (by rfl) (by rfl)) rfl ?_
    refine Wl.nil ?_
    refine At.env [(1, _), (2, _), (3, _), (28, _), (29, _), (30, _), (31, _)] ⟨by rfl, by rfl, by rfl, by rfl, by rfl, by rfl, by rfl, trivial⟩ ?_
    refine At.then_ ?_
    refine Wc.seq ?_
    -- if 0
    first | refine Wc.ifd (by rfl) (fun h1 => ?_) (fun h1 => ?_) | refine Wc.ifb (by rfl) (fun h1 => ?_) (fun h1 => ?_)
    · skip
      refine Wc.skip ?_
      refine At.then_ ?_
      refine Wc.seq ?_
      refine Wc.block ?_
      refine Wc.seq ?_
      -- R4
      refine Wc.know (fun w hw => (Inc.rd .here hki ⟨w, hw⟩).2.2.ol) (fun hro2 => ?_)
      dsimp only at hro2
      have hi1 : i < r.1.ol.xs.length := by omega
      obtain ⟨b, off, ha⟩ := hro2.at hi1
      refine Wc.region ?_
      refine Wl.val (Runs.index us_29 sz_3 (b := b) (off := off) (i := i) (by rw [← ha]; rfl) (by rfl) rfl hi1) rfl ?_
      refine Wl.val (Runs.loadR (e := encI) (s := r.1.ol) (b := b) (off := off) (i := i) (j := 0) (v := .int .i64 (r.1.ol.xs[i])) (by rfl) fl_3 hro2 ha (List.getElem?_eq_getElem hi1) rfl) rfl ?_
      refine Wl.val (Runs.assign (by rfl)) rfl ?_
      refine Wl.nil ?_
      refine At.env [(1, _), (2, _), (3, _), (6, _), (28, _), (29, _), (30, _)] ⟨by rfl, by rfl, by rfl, by rfl, by rfl, by rfl, by rfl, trivial⟩ ?_
      refine At.then_ ?_
      refine Wc.seq ?_
      -- R5
      have hstep : ((r.1.ol.xs).take (i + 1)).foldl (stp rk (appF rk n)) (q.xs, F1.abs) = stp rk (appF rk n) (qi.xs, Fi.abs) r.1.ol.xs[i] := by rw [foldl_take _ _ _ _ hi1, ← hGi]
      have hmem : r.1.ol.xs[i] ∈ r.1.ol.xs := List.getElem_mem hi1
      generalize r.1.ol.xs[i] = c at hstep hmem
      refine Wc.region ?_
      refine Wl.val (Runs.load1 (by rfl) fl_23 (by first | exact (Has.srf hs) | exact (Has.srf (s := { s with cu := r.1, ca := .zero }) hk1) | exact (Has.srf hc) | exact (Has.fof' hfi) | repeat (first | exact Has.here | apply Has.there)) (by rfl)) rfl ?_
      refine Wl.val (Runs.nilCheck (by rfl)) rfl ?_
      refine Wl.val (Runs.field (by rfl) fa_78_0) rfl ?_
      refine Wl.val (Runs.load1 (by rfl) fl_76 (by first | exact (Has.srf hs) | exact (Has.srf (s := { s with cu := r.1, ca := .zero }) hk1) | exact (Has.srf hc) | exact (Has.fof' hfi) | repeat (first | exact Has.here | apply Has.there)) (by rfl)) rfl ?_
      refine Wl.val (Runs.move (by rfl)) rfl ?_
      refine Wl.val (Runs.lookupv mp_76 (by rfl) (by rfl) (by first | exact Has.fomap | repeat (first | exact Has.imap | apply Has.there)) (look_pv Fi.L c)) rfl ?_
      refine Wl.val (Runs.assign (by rfl)) rfl ?_
      refine Wl.nil ?_
      refine At.env [(1, _), (2, _), (3, _), (6, _), (7, _), (28, _), (29, _), (30, _)] ⟨by rfl, by rfl, by rfl, by rfl, by rfl, by rfl, by rfl, by rfl, trivial⟩ ?_
      refine At.then_ ?_
      refine Wc.seq ?_
      refine Wc.seq ?_
      -- R6
      rcases hc : look Fi.L c with _ | t <;> simp only [pv]
      · skip
        refine Wc.region ?_
        refine Wl.val (Runs.move (by rfl)) rfl ?_
        refine Wl.val (Runs.eq (by rfl) (by rfl)) rfl ?_
        refine Wl.val (Runs.move (by rfl)) rfl ?_
        -- split R6.3
        first | refine Wl.splitd 42 (by rfl) (fun h2 => ?_) (fun h2 => ?_) | refine Wl.split 42 (by rfl) (fun h2 => ?_) (fun h2 => ?_)
        · skip
          refine Wl.unwanted (d := 42) rfl rfl rfl rfl ?_
          refine Wl.unwanted (d := 42) rfl rfl rfl rfl ?_
          refine Wl.val (Runs.pickt (by rfl) (by rfl)) rfl ?_
          refine Wl.val (Runs.move (by rfl)) rfl ?_
          refine Wl.unwanted (d := 46) rfl rfl rfl rfl ?_
          refine Wl.unwanted (d := 46) rfl rfl rfl rfl ?_
          refine Wl.unwanted (d := 46) rfl rfl rfl rfl ?_
          refine Wl.unwanted (d := 46) rfl rfl rfl rfl ?_
          refine Wl.val (Runs.pickt (by rfl) (by rfl)) rfl ?_
          refine Wl.nil ?_
          refine At.env [(1, _), (2, _), (3, _), (6, _), (7, _), (28, _), (29, _), (30, _), (51, _)] ⟨by rfl, by rfl, by rfl, by rfl, by rfl, by rfl, by rfl, by rfl, by rfl, trivial⟩ ?_
          refine At.then_ ?_
          refine Wc.ift (by rfl) ?_
          refine Wc.exit ?_
          repeat (first | refine At.thenExit ?_ | refine At.blockOther rfl ?_)
          refine At.blockOut ?_
          refine At.then_ ?_
          -- R10
          refine Wc.region ?_
          refine Wl.val (Runs.add (by rfl) (by rfl) (by omega)) rfl ?_
          refine Wl.val (Runs.move (by rfl)) rfl ?_
          refine Wl.nil ?_
          refine At.env [(1, _), (2, _), (3, _), (28, _), (29, _), (30, _)] ⟨by rfl, by rfl, by rfl, by rfl, by rfl, by rfl, trivial⟩ ?_
          first
          | exact At.again (x := (i, Fi, qi)) (i + 1, y2.1.1, y2.1.2) ⟨by show i + 1 ≤ _; omega, y2.2.1, (by first | (rw [hstep, stp_told (x := (qi.xs, Fi.abs)) (Fo.get_some hc) h0 hsy (not_t (by assumption : (!t.ca.abs.none) = true))]; show _ = appF rk n c (qi.xs ++ [c], Fi.abs); exact y2.2.2.1.trans (congrArg (fun z => appF rk n c (z, Fi.abs)) qn.2)) | (rw [hstep, stp_quiet (x := (qi.xs, Fi.abs)) (Fo.get_some hc) h0 hsy (not_f (by assumption : (!t.ca.abs.none) = false))]; exact y2.2.2.1)), fun j hj => (y2.2.2.2 j (by omega) (by rintro rfl; omega)).trans (hun j hj)⟩ (by show r.1.ol.xs.length - (i + 1) < r.1.ol.xs.length - i; omega) ⟨by rfl, by rfl, by rfl, by rfl, by rfl, by rfl, trivial⟩ (fun _ h => h)
          | exact At.again (x := (i, Fi, qi)) (i + 1, Fi, qi) ⟨by show i + 1 ≤ _; omega, hfi, (by first | rw [hstep, stp_none (Fo.get_none hc)] | rw [hstep, stp_zero (by assumption)] | rw [hstep, stp_free (x := (qi.xs, Fi.abs)) (by simpa using (by assumption : (!syn Fi.abs rk c) = true))]), hun⟩ (by show r.1.ol.xs.length - (i + 1) < r.1.ol.xs.length - i; omega) ⟨by rfl, by rfl, by rfl, by rfl, by rfl, by rfl, trivial⟩ (fun _ h => h)
        · skip
          refine Wl.wanted (d := 42) rfl rfl ?_
          refine Wl.val (Runs.move (by rfl)) rfl ?_
          refine Wl.wanted (d := 42) rfl rfl ?_
          refine Wl.val (Runs.eqp0 up_79 (by rfl)) rfl ?_
          refine Wl.val (Runs.pickf (by rfl) (by rfl)) rfl ?_
          refine Wl.val (Runs.move (by rfl)) rfl ?_
          refine Wl.unwanted (d := 46) rfl rfl rfl rfl ?_
          refine Wl.unwanted (d := 46) rfl rfl rfl rfl ?_
          refine Wl.unwanted (d := 46) rfl rfl rfl rfl ?_
          refine Wl.unwanted (d := 46) rfl rfl rfl rfl ?_
          refine Wl.val (Runs.pickt (by rfl) (by rfl)) rfl ?_
          refine Wl.nil ?_
          refine At.env [(1, _), (2, _), (3, _), (6, _), (7, _), (28, _), (29, _), (30, _), (51, _)] ⟨by rfl, by rfl, by rfl, by rfl, by rfl, by rfl, by rfl, by rfl, by rfl, trivial⟩ ?_
          refine At.then_ ?_
          refine Wc.ift (by rfl) ?_
          refine Wc.exit ?_
          repeat (first | refine At.thenExit ?_ | refine At.blockOther rfl ?_)
          refine At.blockOut ?_
          refine At.then_ ?_
          -- R10
          refine Wc.region ?_
          refine Wl.val (Runs.add (by rfl) (by rfl) (by omega)) rfl ?_
          refine Wl.val (Runs.move (by rfl)) rfl ?_
          refine Wl.nil ?_
          refine At.env [(1, _), (2, _), (3, _), (28, _), (29, _), (30, _)] ⟨by rfl, by rfl, by rfl, by rfl, by rfl, by rfl, trivial⟩ ?_
          first
          | exact At.again (x := (i, Fi, qi)) (i + 1, y2.1.1, y2.1.2) ⟨by show i + 1 ≤ _; omega, y2.2.1, (by first | (rw [hstep, stp_told (x := (qi.xs, Fi.abs)) (Fo.get_some hc) h0 hsy (not_t (by assumption : (!t.ca.abs.none) = true))]; show _ = appF rk n c (qi.xs ++ [c], Fi.abs); exact y2.2.2.1.trans (congrArg (fun z => appF rk n c (z, Fi.abs)) qn.2)) | (rw [hstep, stp_quiet (x := (qi.xs, Fi.abs)) (Fo.get_some hc) h0 hsy (not_f (by assumption : (!t.ca.abs.none) = false))]; exact y2.2.2.1)), fun j hj => (y2.2.2.2 j (by omega) (by rintro rfl; omega)).trans (hun j hj)⟩ (by show r.1.ol.xs.length - (i + 1) < r.1.ol.xs.length - i; omega) ⟨by rfl, by rfl, by rfl, by rfl, by rfl, by rfl, trivial⟩ (fun _ h => h)
          | exact At.again (x := (i, Fi, qi)) (i + 1, Fi, qi) ⟨by show i + 1 ≤ _; omega, hfi, (by first | rw [hstep, stp_none (Fo.get_none hc)] | rw [hstep, stp_zero (by assumption)] | rw [hstep, stp_free (x := (qi.xs, Fi.abs)) (by simpa using (by assumption : (!syn Fi.abs rk c) = true))]), hun⟩ (by show r.1.ol.xs.length - (i + 1) < r.1.ol.xs.length - i; omega) ⟨by rfl, by rfl, by rfl, by rfl, by rfl, by rfl, trivial⟩ (fun _ h => h)
      · skip
        refine Wc.region ?_
        refine Wl.val (Runs.move (by rfl)) rfl ?_
        refine Wl.val (Runs.eq (by rfl) (by rfl)) rfl ?_
        refine Wl.val (Runs.move (by rfl)) rfl ?_
        -- split R6.3
        first | refine Wl.splitd 42 (by rfl) (fun h3 => ?_) (fun h3 => ?_) | refine Wl.split 42 (by rfl) (fun h3 => ?_) (fun h3 => ?_)
        · skip
          refine Wl.unwanted (d := 42) rfl rfl rfl rfl ?_
          refine Wl.unwanted (d := 42) rfl rfl rfl rfl ?_
          refine Wl.val (Runs.pickt (by rfl) (by rfl)) rfl ?_
          refine Wl.val (Runs.move (by rfl)) rfl ?_
          refine Wl.unwanted (d := 46) rfl rfl rfl rfl ?_
          refine Wl.unwanted (d := 46) rfl rfl rfl rfl ?_
          refine Wl.unwanted (d := 46) rfl rfl rfl rfl ?_
          refine Wl.unwanted (d := 46) rfl rfl rfl rfl ?_
          refine Wl.val (Runs.pickt (by rfl) (by rfl)) rfl ?_
          refine Wl.nil ?_
          refine At.env [(1, _), (2, _), (3, _), (6, _), (7, _), (28, _), (29, _), (30, _), (51, _)] ⟨by rfl, by rfl, by rfl, by rfl, by rfl, by rfl, by rfl, by rfl, by rfl, trivial⟩ ?_
          refine At.then_ ?_
          refine Wc.ift (by rfl) ?_
          refine Wc.exit ?_
          repeat (first | refine At.thenExit ?_ | refine At.blockOther rfl ?_)
          refine At.blockOut ?_
          refine At.then_ ?_
          -- R10
          refine Wc.region ?_
          refine Wl.val (Runs.add (by rfl) (by rfl) (by omega)) rfl ?_
          refine Wl.val (Runs.move (by rfl)) rfl ?_
          refine Wl.nil ?_
          refine At.env [(1, _), (2, _), (3, _), (28, _), (29, _), (30, _)] ⟨by rfl, by rfl, by rfl, by rfl, by rfl, by rfl, trivial⟩ ?_
          first
          | exact At.again (x := (i, Fi, qi)) (i + 1, y2.1.1, y2.1.2) ⟨by show i + 1 ≤ _; omega, y2.2.1, (by first | (rw [hstep, stp_told (x := (qi.xs, Fi.abs)) (Fo.get_some hc) h0 hsy (not_t (by assumption : (!t.ca.abs.none) = true))]; show _ = appF rk n c (qi.xs ++ [c], Fi.abs); exact y2.2.2.1.trans (congrArg (fun z => appF rk n c (z, Fi.abs)) qn.2)) | (rw [hstep, stp_quiet (x := (qi.xs, Fi.abs)) (Fo.get_some hc) h0 hsy (not_f (by assumption : (!t.ca.abs.none) = false))]; exact y2.2.2.1)), fun j hj => (y2.2.2.2 j (by omega) (by rintro rfl; omega)).trans (hun j hj)⟩ (by show r.1.ol.xs.length - (i + 1) < r.1.ol.xs.length - i; omega) ⟨by rfl, by rfl, by rfl, by rfl, by rfl, by rfl, trivial⟩ (fun _ h => h)
          | exact At.again (x := (i, Fi, qi)) (i + 1, Fi, qi) ⟨by show i + 1 ≤ _; omega, hfi, (by first | rw [hstep, stp_none (Fo.get_none hc)] | rw [hstep, stp_zero (by assumption)] | rw [hstep, stp_free (x := (qi.xs, Fi.abs)) (by simpa using (by assumption : (!syn Fi.abs rk c) = true))]), hun⟩ (by show r.1.ol.xs.length - (i + 1) < r.1.ol.xs.length - i; omega) ⟨by rfl, by rfl, by rfl, by rfl, by rfl, by rfl, trivial⟩ (fun _ h => h)
        · skip
          refine Wl.wanted (d := 42) rfl rfl ?_
          refine Wl.val (Runs.move (by rfl)) rfl ?_
          refine Wl.wanted (d := 42) rfl rfl ?_
          refine Wl.val (Runs.eqp1 up_79 (by rfl)) rfl ?_
          refine Wl.val (Runs.pickf (by rfl) (by rfl)) rfl ?_
          refine Wl.val (Runs.move (by rfl)) rfl ?_
          refine Wl.wanted (d := 46) rfl rfl ?_
          refine Wl.val (Runs.load1 (by rfl) fl_23 (by first | exact (Has.srf hs) | exact (Has.srf (s := { s with cu := r.1, ca := .zero }) hk1) | exact (Has.srf hc) | exact (Has.fof' hfi) | repeat (first | exact Has.here | apply Has.there)) (by rfl)) rfl ?_
          refine Wl.wanted (d := 46) rfl rfl ?_
          refine Wl.val (Runs.move (by rfl)) rfl ?_
          refine Wl.wanted (d := 46) rfl rfl ?_
          refine Wl.call en_46 (by rfl) (synced' hfi .here hRi.tr.rank) rfl (fun x49 => ?_)
          try dsimp only
          refine Wl.wanted (d := 46) rfl rfl ?_
          first | refine Wl.val (Runs.notd (by rfl)) rfl ?_ | refine Wl.val (Runs.not (by rfl)) rfl ?_
          refine Wl.val (Runs.pickf (by rfl) (by rfl)) rfl ?_
          refine Wl.nil ?_
          refine At.env [(1, _), (2, _), (3, _), (6, _), (7, _), (28, _), (29, _), (30, _), (51, _)] ⟨by rfl, by rfl, by rfl, by rfl, by rfl, by rfl, by rfl, by rfl, by rfl, trivial⟩ ?_
          refine At.then_ ?_
          -- if 2
          first | refine Wc.ifd (by rfl) (fun h4 => ?_) (fun h4 => ?_) | refine Wc.ifb (by rfl) (fun h4 => ?_) (fun h4 => ?_)
          · skip
            refine Wc.exit ?_
            repeat (first | refine At.thenExit ?_ | refine At.blockOther rfl ?_)
            refine At.blockOut ?_
            refine At.then_ ?_
            -- R10
            refine Wc.region ?_
            refine Wl.val (Runs.add (by rfl) (by rfl) (by omega)) rfl ?_
            refine Wl.val (Runs.move (by rfl)) rfl ?_
            refine Wl.nil ?_
            refine At.env [(1, _), (2, _), (3, _), (28, _), (29, _), (30, _)] ⟨by rfl, by rfl, by rfl, by rfl, by rfl, by rfl, trivial⟩ ?_
            first
            | exact At.again (x := (i, Fi, qi)) (i + 1, y2.1.1, y2.1.2) ⟨by show i + 1 ≤ _; omega, y2.2.1, (by first | (rw [hstep, stp_told (x := (qi.xs, Fi.abs)) (Fo.get_some hc) h0 hsy (not_t (by assumption : (!t.ca.abs.none) = true))]; show _ = appF rk n c (qi.xs ++ [c], Fi.abs); exact y2.2.2.1.trans (congrArg (fun z => appF rk n c (z, Fi.abs)) qn.2)) | (rw [hstep, stp_quiet (x := (qi.xs, Fi.abs)) (Fo.get_some hc) h0 hsy (not_f (by assumption : (!t.ca.abs.none) = false))]; exact y2.2.2.1)), fun j hj => (y2.2.2.2 j (by omega) (by rintro rfl; omega)).trans (hun j hj)⟩ (by show r.1.ol.xs.length - (i + 1) < r.1.ol.xs.length - i; omega) ⟨by rfl, by rfl, by rfl, by rfl, by rfl, by rfl, trivial⟩ (fun _ h => h)
            | exact At.again (x := (i, Fi, qi)) (i + 1, Fi, qi) ⟨by show i + 1 ≤ _; omega, hfi, (by first | rw [hstep, stp_none (Fo.get_none hc)] | rw [hstep, stp_zero (by assumption)] | rw [hstep, stp_free (x := (qi.xs, Fi.abs)) (by simpa using (by assumption : (!syn Fi.abs rk c) = true))]), hun⟩ (by show r.1.ol.xs.length - (i + 1) < r.1.ol.xs.length - i; omega) ⟨by rfl, by rfl, by rfl, by rfl, by rfl, by rfl, trivial⟩ (fun _ h => h)
          · skip
            have h0 : ¬ c = 0 := by assumption
            have hsy : syn Fi.abs rk c = true := by simpa using (by assumption : (!syn Fi.abs rk c) = false)
            have hrk : rk k < rk c := hRi.tr.child (p := _) (Fo.get_some hki) (show c ∈ r.1.ol.xs from hmem) h0 (Fo.get_some hc)
            refine Wc.skip ?_
            refine At.then_ ?_
            refine Wc.seq ?_
            refine Wc.seq ?_
            -- R7
            refine Wc.region ?_
            refine Wl.val (Runs.move (by rfl)) rfl ?_
            refine Wl.val (Runs.nilCheck (by rfl)) rfl ?_
            refine Wl.val (Runs.field (by rfl) fa_82_4) rfl ?_
            refine Wl.val (Runs.loadN (vs := [.bool t.ca.at_, .int .i64 t.ca.bu, t.ca.da.v, t.ca.fr.v, .bool t.ca.inp, .bool t.ca.all, t.ca.re.v, .bool t.ca.ord, t.ca.ol.v, t.ca.pl.v]) (by rfl) ag_37 (by first | exact (Has.srf hs) | exact (Has.srf (s := { s with cu := r.1, ca := .zero }) hk1) | exact (Has.srf hc) | exact (Has.fof' hfi) | repeat (first | exact Has.here | apply Has.there)) (by rfl) (by rfl)) rfl ?_
            refine Wl.call en_60 (by rfl) (none_spec (m := t.ca)) rfl (fun x56 => ?_)
            try dsimp only
            first | refine Wl.val (Runs.notd (by rfl)) rfl ?_ | refine Wl.val (Runs.not (by rfl)) rfl ?_
            refine Wl.nil ?_
            refine At.env [(1, _), (2, _), (3, _), (6, _), (7, _), (28, _), (29, _), (30, _), (57, _)] ⟨by rfl, by rfl, by rfl, by rfl, by rfl, by rfl, by rfl, by rfl, by rfl, trivial⟩ ?_
            refine At.then_ ?_
            -- if 3
            first | refine Wc.ifd (by rfl) (fun h5 => ?_) (fun h5 => ?_) | refine Wc.ifb (by rfl) (fun h5 => ?_) (fun h5 => ?_)
            · skip
              -- R8
              refine Wc.region ?_
              refine Wl.val (Runs.load1 (by rfl) fl_29 (by first | exact (Has.srf hs) | exact (Has.srf (s := { s with cu := r.1, ca := .zero }) hk1) | exact (Has.srf hc) | exact (Has.fof' hfi) | repeat (first | exact Has.here | apply Has.there)) (by rfl)) rfl ?_
              refine Wl.val (Runs.move (by rfl)) rfl ?_
              refine Wl.valX (RunsX.buildSlice (U := 3) (cs := [.int .i64 c]) (by rfl) (fun _ => by kernel_rfl)) rfl (fun b60 => ?_)
              try dsimp only
              refine Wl.valX (RunsX.append el_I rfl rfl (s := qi) (r := ⟨some ⟨b60, 0, none⟩, 1, [c]⟩) (by rfl) (by rfl) (by repeat (first | exact Rem.here | apply Rem.there)) (.inr ⟨b60, 0, rfl, fun w hw j v hv => cell_at hw.get (by simpa [Enc.flat, encI] using hv)⟩) (by simp only [List.length_singleton]; omega)) rfl (fun qn => ?_)
              try dsimp only
              refine Wl.act (Acts.store (vs := [_]) (by rfl) (by rfl) sz_29 (by rfl) (by rfl) (by rfl) (by repeat (first | exact Has.here | apply Has.there)) (by exact Nat.le_of_ble_eq_true rfl) (by simp only [Srf.cells, RSt.cells, List.cons_append, List.nil_append, wrs, List.set_cons_zero, List.set_cons_succ, Nat.reduceAdd, Nat.zero_add, Nat.add_zero]; rfl) (by repeat (first | exact UpdL.cel | apply UpdL.there))) ?_
              refine Wl.nil ?_
              refine At.env [(1, _), (2, _), (3, _), (7, _), (28, _), (29, _), (30, _)] ⟨by rfl, by rfl, by rfl, by rfl, by rfl, by rfl, by rfl, trivial⟩ ?_
              refine At.then_ ?_
              -- R9
              refine Wc.region ?_
              first | refine Wl.mem (L' := (Fi).hp :: cel bl 29 [(qn.1).v] :: own encI (qn.1) :: cel bf 23 [.pointer (some ⟨f0, 0, none⟩)] :: cel ba 87 [.func (.func 58) #[] #[.pointer (some ⟨bf, 0, none⟩), .pointer (some ⟨bl, 0, none⟩), .pointer (some ⟨ba, 0, none⟩)]] :: R) (fun _ h => Pick.sat (by refine Pick.cons (by repeat (first | exact Rem.here | apply Rem.there)) ?_; refine Pick.cons (by repeat (first | exact Rem.here | apply Rem.there)) ?_; refine Pick.cons (by repeat (first | exact Rem.here | apply Rem.there)) ?_; refine Pick.cons (by repeat (first | exact Rem.here | apply Rem.there)) ?_; refine Pick.cons (by repeat (first | exact Rem.here | apply Rem.there)) ?_; repeat (first | exact Pick.refl | refine Pick.drop ?_)) h) ?_ | skip
              refine Wl.val (Runs.load1 (by rfl) fl_87 (by first | exact (Has.srf hs) | exact (Has.srf (s := { s with cu := r.1, ca := .zero }) hk1) | exact (Has.srf hc) | exact (Has.fof' hfi) | repeat (first | exact Has.here | apply Has.there)) (by rfl)) rfl ?_
              refine Wl.val (Runs.move (by rfl)) rfl ?_
              first | refine Wl.callv (vs := [_]) (cap := [.pointer (some ⟨bf, 0, none⟩), .pointer (some ⟨bl, 0, none⟩), .pointer (some ⟨ba, 0, none⟩)]) (by rfl) en_58 (by rfl) (ih _ Fi f0 bf bl ba qn.1 c t B hfi hc (by omega) hRi.tr hRi.lim hm (by rw [qn.2, List.length_append, List.length_singleton]; have := cn_told (by assumption : (!t.ca.abs.none) = true); omega) hB) rfl (fun y2 => ?_) | refine Wl.callv (vs := [_]) (cap := [.pointer (some ⟨bf, 0, none⟩), .pointer (some ⟨bl, 0, none⟩), .pointer (some ⟨ba, 0, none⟩)]) (by rfl) en_58 (by rfl) (ih _ Fi f0 bf bl ba qi c t B hfi hc (by omega) hRi.tr hRi.lim hm (by omega) hB) rfl (fun y2 => ?_)
              try dsimp only
              refine Wl.nil ?_
              refine At.env [(1, _), (2, _), (3, _), (28, _), (29, _), (30, _)] ⟨by rfl, by rfl, by rfl, by rfl, by rfl, by rfl, trivial⟩ ?_
              refine At.blockNormal ?_
              refine At.then_ ?_
              -- R10
              refine Wc.region ?_
              refine Wl.val (Runs.add (by rfl) (by rfl) (by omega)) rfl ?_
              refine Wl.val (Runs.move (by rfl)) rfl ?_
              refine Wl.nil ?_
              refine At.env [(1, _), (2, _), (3, _), (28, _), (29, _), (30, _)] ⟨by rfl, by rfl, by rfl, by rfl, by rfl, by rfl, trivial⟩ ?_
              first
              | exact At.again (x := (i, Fi, qi)) (i + 1, y2.1.1, y2.1.2) ⟨by show i + 1 ≤ _; omega, y2.2.1, (by first | (rw [hstep, stp_told (x := (qi.xs, Fi.abs)) (Fo.get_some hc) h0 hsy (not_t (by assumption : (!t.ca.abs.none) = true))]; show _ = appF rk n c (qi.xs ++ [c], Fi.abs); exact y2.2.2.1.trans (congrArg (fun z => appF rk n c (z, Fi.abs)) qn.2)) | (rw [hstep, stp_quiet (x := (qi.xs, Fi.abs)) (Fo.get_some hc) h0 hsy (not_f (by assumption : (!t.ca.abs.none) = false))]; exact y2.2.2.1)), fun j hj => (y2.2.2.2 j (by omega) (by rintro rfl; omega)).trans (hun j hj)⟩ (by show r.1.ol.xs.length - (i + 1) < r.1.ol.xs.length - i; omega) ⟨by rfl, by rfl, by rfl, by rfl, by rfl, by rfl, trivial⟩ (fun _ h => h)
              | exact At.again (x := (i, Fi, qi)) (i + 1, Fi, qi) ⟨by show i + 1 ≤ _; omega, hfi, (by first | rw [hstep, stp_none (Fo.get_none hc)] | rw [hstep, stp_zero (by assumption)] | rw [hstep, stp_free (x := (qi.xs, Fi.abs)) (by simpa using (by assumption : (!syn Fi.abs rk c) = true))]), hun⟩ (by show r.1.ol.xs.length - (i + 1) < r.1.ol.xs.length - i; omega) ⟨by rfl, by rfl, by rfl, by rfl, by rfl, by rfl, trivial⟩ (fun _ h => h)
            · skip
              refine Wc.skip ?_
              refine At.then_ ?_
              -- R9
              refine Wc.region ?_
              first | refine Wl.mem (L' := (Fi).hp :: cel bl 29 [(qn.1).v] :: own encI (qn.1) :: cel bf 23 [.pointer (some ⟨f0, 0, none⟩)] :: cel ba 87 [.func (.func 58) #[] #[.pointer (some ⟨bf, 0, none⟩), .pointer (some ⟨bl, 0, none⟩), .pointer (some ⟨ba, 0, none⟩)]] :: R) (fun _ h => Pick.sat (by refine Pick.cons (by repeat (first | exact Rem.here | apply Rem.there)) ?_; refine Pick.cons (by repeat (first | exact Rem.here | apply Rem.there)) ?_; refine Pick.cons (by repeat (first | exact Rem.here | apply Rem.there)) ?_; refine Pick.cons (by repeat (first | exact Rem.here | apply Rem.there)) ?_; refine Pick.cons (by repeat (first | exact Rem.here | apply Rem.there)) ?_; repeat (first | exact Pick.refl | refine Pick.drop ?_)) h) ?_ | skip
              refine Wl.val (Runs.load1 (by rfl) fl_87 (by first | exact (Has.srf hs) | exact (Has.srf (s := { s with cu := r.1, ca := .zero }) hk1) | exact (Has.srf hc) | exact (Has.fof' hfi) | repeat (first | exact Has.here | apply Has.there)) (by rfl)) rfl ?_
              refine Wl.val (Runs.move (by rfl)) rfl ?_
              first | refine Wl.callv (vs := [_]) (cap := [.pointer (some ⟨bf, 0, none⟩), .pointer (some ⟨bl, 0, none⟩), .pointer (some ⟨ba, 0, none⟩)]) (by rfl) en_58 (by rfl) (ih _ Fi f0 bf bl ba qn.1 c t B hfi hc (by omega) hRi.tr hRi.lim hm (by rw [qn.2, List.length_append, List.length_singleton]; have := cn_told (by assumption : (!t.ca.abs.none) = true); omega) hB) rfl (fun y2 => ?_) | refine Wl.callv (vs := [_]) (cap := [.pointer (some ⟨bf, 0, none⟩), .pointer (some ⟨bl, 0, none⟩), .pointer (some ⟨ba, 0, none⟩)]) (by rfl) en_58 (by rfl) (ih _ Fi f0 bf bl ba qi c t B hfi hc (by omega) hRi.tr hRi.lim hm (by omega) hB) rfl (fun y2 => ?_)
              try dsimp only
              refine Wl.nil ?_
              refine At.env [(1, _), (2, _), (3, _), (28, _), (29, _), (30, _)] ⟨by rfl, by rfl, by rfl, by rfl, by rfl, by rfl, trivial⟩ ?_
              refine At.blockNormal ?_
              refine At.then_ ?_
              -- R10
              refine Wc.region ?_
              refine Wl.val (Runs.add (by rfl) (by rfl) (by omega)) rfl ?_
              refine Wl.val (Runs.move (by rfl)) rfl ?_
              refine Wl.nil ?_
              refine At.env [(1, _), (2, _), (3, _), (28, _), (29, _), (30, _)] ⟨by rfl, by rfl, by rfl, by rfl, by rfl, by rfl, trivial⟩ ?_
              first
              | exact At.again (x := (i, Fi, qi)) (i + 1, y2.1.1, y2.1.2) ⟨by show i + 1 ≤ _; omega, y2.2.1, (by first | (rw [hstep, stp_told (x := (qi.xs, Fi.abs)) (Fo.get_some hc) h0 hsy (not_t (by assumption : (!t.ca.abs.none) = true))]; show _ = appF rk n c (qi.xs ++ [c], Fi.abs); exact y2.2.2.1.trans (congrArg (fun z => appF rk n c (z, Fi.abs)) qn.2)) | (rw [hstep, stp_quiet (x := (qi.xs, Fi.abs)) (Fo.get_some hc) h0 hsy (not_f (by assumption : (!t.ca.abs.none) = false))]; exact y2.2.2.1)), fun j hj => (y2.2.2.2 j (by omega) (by rintro rfl; omega)).trans (hun j hj)⟩ (by show r.1.ol.xs.length - (i + 1) < r.1.ol.xs.length - i; omega) ⟨by rfl, by rfl, by rfl, by rfl, by rfl, by rfl, trivial⟩ (fun _ h => h)
              | exact At.again (x := (i, Fi, qi)) (i + 1, Fi, qi) ⟨by show i + 1 ≤ _; omega, hfi, (by first | rw [hstep, stp_none (Fo.get_none hc)] | rw [hstep, stp_zero (by assumption)] | rw [hstep, stp_free (x := (qi.xs, Fi.abs)) (by simpa using (by assumption : (!syn Fi.abs rk c) = true))]), hun⟩ (by show r.1.ol.xs.length - (i + 1) < r.1.ol.xs.length - i; omega) ⟨by rfl, by rfl, by rfl, by rfl, by rfl, by rfl, trivial⟩ (fun _ h => h)
    · skip
      refine Wc.exit ?_
      repeat (first | refine At.thenExit ?_ | refine At.blockOther rfl ?_)
      refine At.blockOut ?_
      -- end 0
      exact At.end0 ⟨(Fi, qi), hfi, by rw [happ]; show (qi.xs, Fi.abs) = _; rw [hGi, show i = r.1.ol.xs.length by omega, List.take_length], fun j hj hne => (hun j hj).trans (hun1 j hne)⟩ rfl rfl (fun _ h => h)
end Go.Proofs.Sl

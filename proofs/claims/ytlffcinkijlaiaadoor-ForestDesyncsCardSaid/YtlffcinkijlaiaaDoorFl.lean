/- Printed by a program of this session out of the translation (wip/tools/gen.py): walks. -/
import Derived.Test.YtlffcinkijlaiaaDoorFk
import Derived.Test.YtlffcinkijlaiaaDoorProg
import Derived.KernelRfl
namespace Go.Proofs.Sl
open Go
set_option linter.unusedVariables false
set_option linter.unusedSimpArgs false
set_option maxRecDepth 20000


theorem take_eq {a b : List Int} (hl : a.length = b.length) {i : Nat} (h : a.take i = b.take i) (hi : i < a.length) (e : a[i] = b[i]'(by omega)) : a.take (i + 1) = b.take (i + 1) := by
  rw [List.take_succ_eq_append_getElem hi, List.take_succ_eq_append_getElem (by omega : i < b.length), h, e]
theorem take_all {a b : List Int} (hl : a.length = b.length) {i : Nat} (h : a.take i = b.take i) (hi : a.length ≤ i) : a = b := by
  rwa [List.take_of_length_le hi, List.take_of_length_le (by omega)] at h

theorem same_spec {L : List HP} {s r : Sli Int} (hs : Rds L encI s) (hr : Rds L encI r) (hb : s.xs.length ≤ 1000000000) : ∀ w, Sat w (L) → Calls Tryd.prog 39 #[s.v, r.v] w (Ret (α := Unit) (fun _ => .bool (decide (s.xs = r.xs))) (fun _ => L)) := by
  refine Spec.enter (n := 26) (vs := [s.v, r.v]) Tryd.func39 rfl rfl rfl ?_
  dsimp only [enum, Nat.reduceAdd]
  refine Wc.seq ?_
  -- R0
  refine Wc.region ?_
  refine Wl.val (Runs.assign (by rfl)) rfl ?_
  refine Wl.nil ?_
  refine At.env [(0, _), (1, _)] ⟨by rfl, by rfl, trivial⟩ ?_
  refine At.then_ ?_
  refine Wc.seq ?_
  refine Wc.seq ?_
  -- R1
  refine Wc.region ?_
  refine Wl.val (Runs.move (by rfl)) rfl ?_
  refine Wl.val (Runs.lenSlice us_29 rfl (p := s.a) (l := s.xs.length) (c := s.cap) (by rfl)) rfl ?_
  refine Wl.val (Runs.move (by rfl)) rfl ?_
  refine Wl.val (Runs.lenSlice us_29 rfl (p := r.a) (l := r.xs.length) (c := r.cap) (by rfl)) rfl ?_
  refine Wl.val (Runs.ne (by rfl) (by rfl)) rfl ?_
  refine Wl.nil ?_
  refine At.env [(0, _), (1, _), (10, _)] ⟨by rfl, by rfl, by rfl, trivial⟩ ?_
  refine At.then_ ?_
  -- if 0
  first | refine Wc.ifd (by rfl) (fun h1 => ?_) (fun h1 => ?_) | refine Wc.ifb (by rfl) (fun h1 => ?_) (fun h1 => ?_)
  · skip
    refine Wc.seq ?_
    -- R2
    refine Wc.region ?_
    refine Wl.val (Runs.assign (by rfl)) rfl ?_
    refine Wl.nil ?_
    refine At.env [(4, _)] ⟨by rfl, trivial⟩ ?_
    refine At.then_ ?_
    refine Wc.ret ?_
    repeat (first | refine At.thenRet ?_ | refine At.blockRet ?_)
    -- ret 0
    exact At.ret1 () rfl (by show _ = some (Value.bool (decide (s.xs = r.xs))); rw [decide_eq_false (fun e => h1 (by rw [e]))]; rfl) (fun _ h => h)
  · skip
    refine Wc.skip ?_
    refine At.then_ ?_
    refine Wc.seq ?_
    refine Wc.seq ?_
    -- R3
    refine Wc.region ?_
    refine Wl.val (Runs.assign (by rfl)) rfl ?_
    refine Wl.nil ?_
    refine At.env [(0, _), (1, _), (5, _)] ⟨by rfl, by rfl, by rfl, trivial⟩ ?_
    refine At.then_ ?_
    refine Wc.block ?_
    refine Wc.loop (α := Nat) (fun i => [(0, s.v), (1, r.v), (5, .int .i64 (i : Int))]) (fun i => L) (fun i => i ≤ s.xs.length ∧ s.xs.take i = r.xs.take i) (fun i => s.xs.length - i) 0 ?_ ⟨(by rfl), (by rfl), (by rfl), trivial⟩ ?_ ?_
    · skip
      exact ⟨Nat.zero_le _, rfl⟩
    · skip
      exact fun _ h => h
    · skip
      rintro i ⟨hI, ht⟩
      have hl : s.xs.length = r.xs.length := by omega
      try dsimp only
      refine Wc.seq ?_
      refine Wc.seq ?_
      -- R4
      refine Wc.region ?_
      refine Wl.val (Runs.move (by rfl)) rfl ?_
      refine Wl.val (Runs.move (by rfl)) rfl ?_
      refine Wl.val (Runs.lenSlice us_29 rfl (p := s.a) (l := s.xs.length) (c := s.cap) (by rfl)) rfl ?_
      refine Wl.val (Runs.lt (by rfl) (by rfl)) rfl ?_
      refine Wl.nil ?_
      refine At.env [(0, _), (1, _), (5, _), (14, _)] ⟨by rfl, by rfl, by rfl, by rfl, trivial⟩ ?_
      refine At.then_ ?_
      -- if 1
      first | refine Wc.ifd (by rfl) (fun h2 => ?_) (fun h2 => ?_) | refine Wc.ifb (by rfl) (fun h2 => ?_) (fun h2 => ?_)
      · skip
        refine Wc.skip ?_
        refine At.then_ ?_
        refine Wc.seq ?_
        refine Wc.block ?_
        refine Wc.seq ?_
        -- R6
        have hi1 : i < s.xs.length := by omega
        have hi2 : i < r.xs.length := by omega
        obtain ⟨b1, o1, ha1⟩ := hs.at hi1
        obtain ⟨b2, o2, ha2⟩ := hr.at hi2
        refine Wd.begin0 (fun _ => true) mixed ?_
        dsimp only [List.length_cons, List.length_nil, Nat.reduceAdd]
        refine Wd.takeP 0 rfl (by kernel_rfl) (by kernel_rfl) (by kernel_rfl) (fun _ _ _ _ h => h) (Runs.move (by rfl)) rfl ?_
        refine Wd.takeP 1 rfl (by kernel_rfl) (by kernel_rfl) (by kernel_rfl) (fun _ _ _ _ h => h) (Runs.move (by rfl)) rfl ?_
        refine Wd.takeP 2 rfl (by kernel_rfl) (by kernel_rfl) (by kernel_rfl) (fun _ _ _ _ h => h) (Runs.index us_29 sz_3 (b := b1) (off := o1) (i := i) (by rw [← ha1]; rfl) (by rfl) rfl hi1) rfl ?_
        refine Wd.takeR 3 rfl (by kernel_rfl) (by kernel_rfl) (by kernel_rfl) (fun _ _ _ _ h => h) (fun _ h => h) (Runs.loadR (e := encI) (s := s) (b := b1) (off := o1) (i := i) (j := 0) (v := .int .i64 (s.xs[i])) (by rfl) fl_3 hs ha1 (List.getElem?_eq_getElem hi1) rfl) rfl ?_
        refine Wd.takeP 4 rfl (by kernel_rfl) (by kernel_rfl) (by kernel_rfl) (fun _ _ _ _ h => h) (Runs.move (by rfl)) rfl ?_
        refine Wd.takeP 5 rfl (by kernel_rfl) (by kernel_rfl) (by kernel_rfl) (fun _ _ _ _ h => h) (Runs.move (by rfl)) rfl ?_
        refine Wd.takeP 6 rfl (by kernel_rfl) (by kernel_rfl) (by kernel_rfl) (fun _ _ _ _ h => h) (Runs.index us_29 sz_3 (b := b2) (off := o2) (i := i) (by rw [← ha2]; rfl) (by rfl) rfl hi2) rfl ?_
        refine Wd.takeR 7 rfl (by kernel_rfl) (by kernel_rfl) (by kernel_rfl) (fun _ _ _ _ h => h) (fun _ h => h) (Runs.loadR (e := encI) (s := r) (b := b2) (off := o2) (i := i) (j := 0) (v := .int .i64 (r.xs[i])) (by rfl) fl_3 hr ha2 (List.getElem?_eq_getElem hi2) rfl) rfl ?_
        refine Wd.takeP 8 rfl (by kernel_rfl) (by kernel_rfl) (by kernel_rfl) (fun _ _ _ _ h => h) (Runs.ne (by rfl) (by rfl)) rfl ?_
        refine Wd.done (by kernel_rfl) ?_
        refine At.env [(0, _), (1, _), (5, _), (25, _)] ⟨by rfl, by rfl, by rfl, by rfl, trivial⟩ ?_
        refine At.then_ ?_
        -- if 2
        first | refine Wc.ifd (by rfl) (fun h3 => ?_) (fun h3 => ?_) | refine Wc.ifb (by rfl) (fun h3 => ?_) (fun h3 => ?_)
        · skip
          refine Wc.seq ?_
          -- R7
          refine Wc.region ?_
          refine Wl.val (Runs.assign (by rfl)) rfl ?_
          refine Wl.nil ?_
          refine At.env [(4, _)] ⟨by rfl, trivial⟩ ?_
          refine At.then_ ?_
          refine Wc.ret ?_
          repeat (first | refine At.thenRet ?_ | refine At.blockRet ?_)
          -- ret 1
          exact At.ret1 () rfl (by show _ = some (Value.bool (decide (s.xs = r.xs))); rw [decide_eq_false (fun e => by first | exact h3 (by simp only [e]) | exact h2 (by simp only [e]))]; rfl) (fun _ h => h)
        · skip
          refine Wc.skip ?_
          refine At.blockNormal ?_
          refine At.then_ ?_
          -- R5
          refine Wc.region ?_
          refine Wl.val (Runs.move (by rfl)) rfl ?_
          refine Wl.val (Runs.add (by rfl) (by rfl) (by omega)) rfl ?_
          refine Wl.val (Runs.assign (by rfl)) rfl ?_
          refine Wl.nil ?_
          refine At.env [(0, _), (1, _), (5, _)] ⟨by rfl, by rfl, by rfl, trivial⟩ ?_
          exact At.again (i + 1) ⟨by omega, take_eq hl ht hi1 (by omega)⟩ (by omega) ⟨by rfl, by rfl, by rfl, trivial⟩ (fun _ h => h)
      · skip
        refine Wc.exit ?_
        repeat (first | refine At.thenExit ?_ | refine At.blockOther rfl ?_)
        refine At.blockOut ?_
        refine At.then_ ?_
        refine Wc.seq ?_
        -- R8
        refine Wc.region ?_
        refine Wl.val (Runs.assign (by rfl)) rfl ?_
        refine Wl.nil ?_
        refine At.env [(4, _)] ⟨by rfl, trivial⟩ ?_
        refine At.then_ ?_
        refine Wc.ret ?_
        repeat (first | refine At.thenRet ?_ | refine At.blockRet ?_)
        -- ret 2
        exact At.ret1 () rfl (by show _ = some (Value.bool (decide (s.xs = r.xs))); rw [decide_eq_true (take_all hl ht (by omega))]; rfl) (fun _ h => h)

theorem add' {f0 : Nat} {R : List HP} {F : Fo} (hf : F.f = f0) {p : Nat → Addr} (hG : Gl R p) {id : Int} : ∀ w, Sat w (F.hp :: R) → Calls Tryd.prog 10 #[.pointer (some ⟨f0, 0, none⟩), .int .i64 id] w (Ret (α := { F' : Fo // F'.f = f0 ∧ F'.abs = (pAdd F.abs id).2 }) (fun _ => errV p (pAdd F.abs id).1) (fun x => x.1.hp :: R)) := by
  subst hf; exact add_spec hG

theorem sync' {f0 : Nat} {R : List HP} {F : Fo} (hf : F.f = f0) {p : Nat → Addr} (hG : Gl R p) {id : Int} {on : Bool} : ∀ w, Sat w (F.hp :: R) → Calls Tryd.prog 14 #[.pointer (some ⟨f0, 0, none⟩), .int .i64 id, .bool on] w (Ret (α := { F' : Fo // F'.f = f0 ∧ F'.abs = (pSync F.abs id on).2 }) (fun _ => errV p (pSync F.abs id on).1) (fun x => x.1.hp :: R)) := by
  subst hf; exact sync_spec hG

theorem attach' {f0 : Nat} {R : List HP} {F : Fo} (hf : F.f = f0) {p : Nat → Addr} (hG : Gl R p) {id b : Int} : ∀ w, Sat w (F.hp :: R) → Calls Tryd.prog 15 #[.pointer (some ⟨f0, 0, none⟩), .int .i64 id, .int .i64 b] w (Ret (α := { F' : Fo // F'.f = f0 ∧ F'.abs = (pTurn F.abs id (fun s => { s with at_ := true, bu := b })).2 }) (fun _ => errV p (pTurn F.abs id (fun s => { s with at_ := true, bu := b })).1) (fun x => x.1.hp :: R)) := by
  subst hf; exact attach_spec hG

theorem frame' {f0 : Nat} {R : List HP} {F : Fo} (hf : F.f = f0) {p : Nat → Addr} (hG : Gl R p) {n : Nat} (hl : Lim n F.abs) (hn : n ≤ 1000000) {id b : Int} : ∀ w, Sat w (F.hp :: R) → Calls Tryd.prog 67 #[.pointer (some ⟨f0, 0, none⟩), .int .i64 id, .int .i64 b] w (Ret (α := { F' : Fo // F'.f = f0 ∧ F'.abs = (pTurn F.abs id (fun s => { s with fr := s.fr ++ [b] })).2 }) (fun _ => errV p (pTurn F.abs id (fun s => { s with fr := s.fr ++ [b] })).1) (fun x => x.1.hp :: R)) := by
  subst hf; exact frame_spec hG hl hn

theorem sub' {f0 : Nat} {R : List HP} {F : Fo} (hf : F.f = f0) {p : Nat → Addr} (hG : Gl R p) {rk : Int → Nat} (hr : Rk F.abs rk) {n : Nat} (hl : Lim n F.abs) (hn : n ≤ 1000000) {id parent : Int} : ∀ w, Sat w (F.hp :: R) → Calls Tryd.prog 11 #[.pointer (some ⟨f0, 0, none⟩), .int .i64 id, .int .i64 parent] w (Ret (α := { F' : Fo // F'.f = f0 ∧ F'.abs = (pSub F.abs rk id parent).2 }) (fun _ => errV p (pSub F.abs rk id parent).1) (fun x => x.1.hp :: R)) := by
  subst hf; exact sub_spec hG hr hl hn

theorem commit' {f0 : Nat} {R : List HP} {F : Fo} (hf : F.f = f0) {p : Nat → Addr} (hG : Gl R p) {rk : Int → Nat} {N m : Nat} (ht : Tr rk N F.abs) (hl : Lim m F.abs) (hm : m ≤ 1000000) (hlen : F.abs.length ≤ 500000) {id : Int} : ∀ w, Sat w (F.hp :: R) → Calls Tryd.prog 12 #[.pointer (some ⟨f0, 0, none⟩), .int .i64 id] w (Ret (α := { y : Fo × Sli Int // y.1.f = f0 ∧ y.2.xs = (pCommit F.abs rk N id).l ∧ y.1.abs = (pCommit F.abs rk N id).A }) (fun y => .tuple #[y.1.2.v, errV p (pCommit F.abs rk N id).er]) (fun y => y.1.1.hp :: own encI y.1.2 :: R)) := by
  subst hf; exact commit_spec hG ht hl hm hlen

theorem cu' {f0 : Nat} {L : List HP} {F : Fo} (hf : F.f = f0) (hi : Inc L F.hp) {id : Int} {n : Nat} (hl : Lim n F.abs) (hn : n ≤ 1000000) : ∀ w, Sat w (L) → Calls Tryd.prog 16 #[.pointer (some ⟨f0, 0, none⟩), .int .i64 id] w (Ret (α := { r : RSt // r.abs = pCur F.abs id }) (fun r => .agg r.1.cells.toArray) (fun r => r.1.rows ++ L)) := by
  subst hf; exact cu_spec hi hl hn

theorem ca' {f0 : Nat} {L : List HP} {F : Fo} (hf : F.f = f0) (hi : Inc L F.hp) {id : Int} {n : Nat} (hl : Lim n F.abs) (hn : n ≤ 1000000) : ∀ w, Sat w (L) → Calls Tryd.prog 17 #[.pointer (some ⟨f0, 0, none⟩), .int .i64 id] w (Ret (α := { r : RSt // r.abs = pCa F.abs id }) (fun r => .agg r.1.cells.toArray) (fun r => r.1.rows ++ L)) := by
  subst hf; exact ca_spec hi hl hn
end Go.Proofs.Sl

/- Printed by a program of this session out of the translation (wip/tools/gen.py): walks. -/
import Derived.Test.YtlffcinkijlaiaaDoorFd
import Derived.Test.YtlffcinkijlaiaaDoorSlOpen
import Derived.Test.YtlffcinkijlaiaaDoorProg
import Derived.KernelRfl
namespace Go.Proofs.Sl
open Go
set_option linter.unusedVariables false
set_option linter.unusedSimpArgs false
set_option maxRecDepth 20000
theorem en_89 : Enters Tryd.prog 89 := fun _ _ => by kernel_rfl
theorem en_90 : Enters Tryd.prog 90 := fun _ _ => by kernel_rfl
theorem en_91 : Enters Tryd.prog 91 := fun _ _ => by kernel_rfl
theorem zr_37 : ∀ w, (zeroValue 37).run Tryd.prog w = .ok (.agg #[.bool false, .int .i64 0, .slice none 0 0, .slice none 0 0, .bool false, .bool false, .slice none 0 0, .bool false, .slice none 0 0, .slice none 0 0]) w := fun _ => by kernel_rfl
theorem fa_37_0 : ∀ b o w, (Instr.fieldAt 37 (.pointer (some ⟨b, o, none⟩)) 0).run Tryd.prog w = .ok (.pointer (some ⟨b, o + 0, none⟩)) w := fun _ _ _ => by kernel_rfl
theorem fa_37_1 : ∀ b o w, (Instr.fieldAt 37 (.pointer (some ⟨b, o, none⟩)) 1).run Tryd.prog w = .ok (.pointer (some ⟨b, o + 1, none⟩)) w := fun _ _ _ => by kernel_rfl
theorem fa_37_2 : ∀ b o w, (Instr.fieldAt 37 (.pointer (some ⟨b, o, none⟩)) 2).run Tryd.prog w = .ok (.pointer (some ⟨b, o + 2, none⟩)) w := fun _ _ _ => by kernel_rfl
theorem fa_37_3 : ∀ b o w, (Instr.fieldAt 37 (.pointer (some ⟨b, o, none⟩)) 3).run Tryd.prog w = .ok (.pointer (some ⟨b, o + 3, none⟩)) w := fun _ _ _ => by kernel_rfl
theorem fa_37_4 : ∀ b o w, (Instr.fieldAt 37 (.pointer (some ⟨b, o, none⟩)) 4).run Tryd.prog w = .ok (.pointer (some ⟨b, o + 4, none⟩)) w := fun _ _ _ => by kernel_rfl
theorem fa_37_5 : ∀ b o w, (Instr.fieldAt 37 (.pointer (some ⟨b, o, none⟩)) 5).run Tryd.prog w = .ok (.pointer (some ⟨b, o + 5, none⟩)) w := fun _ _ _ => by kernel_rfl
theorem fa_37_6 : ∀ b o w, (Instr.fieldAt 37 (.pointer (some ⟨b, o, none⟩)) 6).run Tryd.prog w = .ok (.pointer (some ⟨b, o + 6, none⟩)) w := fun _ _ _ => by kernel_rfl
theorem fa_37_7 : ∀ b o w, (Instr.fieldAt 37 (.pointer (some ⟨b, o, none⟩)) 7).run Tryd.prog w = .ok (.pointer (some ⟨b, o + 7, none⟩)) w := fun _ _ _ => by kernel_rfl
theorem fa_37_8 : ∀ b o w, (Instr.fieldAt 37 (.pointer (some ⟨b, o, none⟩)) 8).run Tryd.prog w = .ok (.pointer (some ⟨b, o + 8, none⟩)) w := fun _ _ _ => by kernel_rfl
theorem fa_37_9 : ∀ b o w, (Instr.fieldAt 37 (.pointer (some ⟨b, o, none⟩)) 9).run Tryd.prog w = .ok (.pointer (some ⟨b, o + 9, none⟩)) w := fun _ _ _ => by kernel_rfl
theorem sz_37 : ∀ w, (sizeOf 37).run Tryd.prog w = .ok 10 w := fun _ => by kernel_rfl
theorem sz_4 : ∀ w, (sizeOf 4).run Tryd.prog w = .ok 1 w := fun _ => by kernel_rfl
theorem ag_37 : Agg Tryd.prog 37 10 := ⟨fun _ => by kernel_rfl, sz_37⟩

def bldI (m1 m2 : RSt) : Item := ⟨35, 41, fun s => Pure (s 41 = .agg #[.bool m1.at_, .int .i64 m1.bu, (sliOf (s 15) (m1.da.xs ++ m2.da.xs) : Sli Rc).v, (sliOf (s 21) (m1.fr.xs ++ m2.fr.xs) : Sli Int).v, .bool m1.inp, .bool m1.all, (sliOf (s 29) (m1.re.xs) : Sli Rc).v, .bool m1.ord, (sliOf (s 35) (m1.ol.xs) : Sli Int).v, (sliOf (s 40) (puts m1.pl.xs m2.pl.xs) : Sli Ch).v]), [9, 15, 23, 29, 34], [41, 15, 21, 29, 35, 40], fun s s' h => by
  rw [h 41 (by simp), h 15 (by simp), h 21 (by simp), h 29 (by simp), h 35 (by simp), h 40 (by simp)]⟩
theorem merge_fin {Q : Exit → Act → World → Prop} {ops : Array Oper} {needs : Nat → Bool} {LR : List HP} {listed : Array Bool} {E : Env} {L : List HP} (m1 m2 : RSt)
    (h : ∀ (q1 : Sli Rc) (_ : q1.xs = m1.da.xs ++ m2.da.xs) (q2 : Sli Int) (_ : q2.xs = m1.fr.xs ++ m2.fr.xs) (q3 : Sli Rc) (_ : q3.xs = m1.re.xs) (q4 : Sli Int) (_ : q4.xs = m1.ol.xs) (q5 : Sli Ch) (_ : q5.xs = puts m1.pl.xs m2.pl.xs) (b5 : Nat),
      Wd Tryd.prog 68 Q ((5, .pointer (some ⟨b5, 0, none⟩)) :: (41, .agg #[.bool m1.at_, .int .i64 m1.bu, q1.v, q2.v, .bool m1.inp, .bool m1.all, q3.v, .bool m1.ord, q4.v, q5.v]) :: E)
        (cel b5 37 [.bool false, .int .i64 0, .slice none 0 0, .slice none 0 0, .bool false, .bool false, .slice none 0 0, .bool false, .slice none 0 0, .slice none 0 0] :: own encC q5 :: own encI q4 :: own encR q3 :: own encI q2 :: own encR q1 :: L) ops needs LR 1 listed) :
    ∀ a w, Agr 68 E a → Sat w (([rowI 8 14 2 34 [m1.da.v, m2.da.v], rowI 14 20 2 29 [m1.fr.v, m2.fr.v], rowI 22 28 1 34 [m1.re.v], rowI 28 34 1 29 [m1.ol.v], resI encR 9 15 (m1.da.xs ++ m2.da.xs) [8], resI encI 15 21 (m1.fr.xs ++ m2.fr.xs) [14], resI encR 23 29 m1.re.xs [22], resI encI 29 35 m1.ol.xs [28], resI encC 34 40 (puts m1.pl.xs m2.pl.xs) [], bldI m1 m2, varI 36 5 37 [.bool false, .int .i64 0, .slice none 0 0, .slice none 0 0, .bool false, .bool false, .slice none 0 0, .bool false, .slice none 0 0, .slice none 0 0]] : List Item).map (fun it => it.R (slots a)) ++ L) → anyS Tryd.prog ops Q needs (fun w => Sat w LR) 1 listed a w := by
  intro a w hA hS
  have h0 : Sat w (resR encR 15 (m1.da.xs ++ m2.da.xs) (slots a) :: resR encI 21 (m1.fr.xs ++ m2.fr.xs) (slots a) :: resR encR 29 m1.re.xs (slots a) :: resR encI 35 m1.ol.xs (slots a) :: resR encC 40 (puts m1.pl.xs m2.pl.xs) (slots a) ::
      Pure (slots a 41 = .agg #[.bool m1.at_, .int .i64 m1.bu, (sliOf (slots a 15) (m1.da.xs ++ m2.da.xs) : Sli Rc).v, (sliOf (slots a 21) (m1.fr.xs ++ m2.fr.xs) : Sli Int).v, .bool m1.inp, .bool m1.all, (sliOf (slots a 29) (m1.re.xs) : Sli Rc).v, .bool m1.ord, (sliOf (slots a 35) (m1.ol.xs) : Sli Int).v, (sliOf (slots a 40) (puts m1.pl.xs m2.pl.xs) : Sli Ch).v]) :: varR 5 37 [.bool false, .int .i64 0, .slice none 0 0, .slice none 0 0, .bool false, .bool false, .slice none 0 0, .bool false, .slice none 0 0, .slice none 0 0] (slots a) :: L) := Sat.drop (Sat.drop (Sat.drop (Sat.drop hS)))
  obtain ⟨e1, h1⟩ := resR.get h0
  obtain ⟨e2, h2⟩ := resR.get h1.swap
  obtain ⟨e3, h3⟩ := resR.get h2.b2
  obtain ⟨e4, h4⟩ := resR.get h3.b3
  obtain ⟨e5, h5⟩ := resR.get h4.b4
  have e6 := h5.b5.pure
  obtain ⟨e7, h7⟩ := varR.get h5.b5.drop.b5
  exact h (sliOf (slots a 15) _) (sliOf_xs _ _) (sliOf (slots a 21) _) (sliOf_xs _ _) (sliOf (slots a 29) _) (sliOf_xs _ _) (sliOf (slots a 35) _) (sliOf_xs _ _) (sliOf (slots a 40) _) (sliOf_xs _ _) _ a w ((hA.slot rfl e6).slot rfl e7) h7

set_option maxHeartbeats 1000000 in
theorem merge_spec {L : List HP} {m1 m2 : RSt} (r1 : RSt.Rd L m1) (r2 : RSt.Rd L m2) (s1 : m1.Small) (s2 : m2.Small) : ∀ w, Sat w (L) → Calls Tryd.prog 57 #[.agg m1.cells.toArray, .agg m2.cells.toArray] w (Ret (α := { r : RSt // r.abs = m1.abs.merge m2.abs }) (fun r => .agg r.1.cells.toArray) (fun r => r.1.rows ++ L)) := by
  refine Spec.enter (n := 68) (vs := [.agg m1.cells.toArray, .agg m2.cells.toArray]) Tryd.func57 rfl rfl rfl ?_
  dsimp only [enum, Nat.reduceAdd]
  refine Wc.seq ?_
  -- R0
  obtain ⟨s1a, s1b, s1c, s1d, s1e⟩ := s1
  obtain ⟨s2a, s2b, s2c, s2d, s2e⟩ := s2
  refine Wc.region ?_
  refine Wl.valX (RunsX.box (cs := [.bool m1.at_, .int .i64 m1.bu, m1.da.v, m1.fr.v, .bool m1.inp, .bool m1.all, m1.re.v, .bool m1.ord, m1.ol.v, m1.pl.v]) (by rfl) (by rfl)) rfl (fun b2 => ?_)
  try dsimp only
  refine Wl.valX (RunsX.box (cs := [.bool m2.at_, .int .i64 m2.bu, m2.da.v, m2.fr.v, .bool m2.inp, .bool m2.all, m2.re.v, .bool m2.ord, m2.ol.v, m2.pl.v]) (by rfl) (by rfl)) rfl (fun b3 => ?_)
  try dsimp only
  refine Wl.valX (RunsX.alloc (cs := [.bool false, .int .i64 0, .slice none 0 0, .slice none 0 0, .bool false, .bool false, .slice none 0 0, .bool false, .slice none 0 0, .slice none 0 0]) zr_37 rfl) rfl (fun b4 => ?_)
  try dsimp only
  refine Wl.nil ?_
  refine At.env [(2, _), (3, _), (4, _)] ⟨by rfl, by rfl, by rfl, trivial⟩ ?_
  refine At.then_ ?_
  refine Wc.seq ?_
  -- R1
  refine Wd.begin0 (fun i => !(Nat.beq i 37)) mixed ?_
  dsimp only [List.length_cons, List.length_nil, Nat.reduceAdd]
  refine Wd.takeP 0 rfl (by kernel_rfl) (by kernel_rfl) (by kernel_rfl) (fun _ _ _ _ h => h) (Runs.field (by rfl) fa_37_0) rfl ?_
  refine Wd.takeR 1 rfl (by kernel_rfl) (by kernel_rfl) (by kernel_rfl) (fun _ _ _ _ h => h) (fun _ h => h) (Runs.load1 (by rfl) fl_4 (by repeat (first | exact Has.here | apply Has.there)) (by rfl)) rfl ?_
  refine Wd.takeP 2 rfl (by kernel_rfl) (by kernel_rfl) (by kernel_rfl) (fun _ _ _ _ h => h) (Runs.field (by rfl) fa_37_1) rfl ?_
  refine Wd.takeR 3 rfl (by kernel_rfl) (by kernel_rfl) (by kernel_rfl) (fun _ _ _ _ h => h) (fun _ h => h) (Runs.load1 (by rfl) fl_3 (by repeat (first | exact Has.here | apply Has.there)) (by rfl)) rfl ?_
  refine Wd.takeP 4 rfl (by kernel_rfl) (by kernel_rfl) (by kernel_rfl) (fun _ _ _ _ h => h) (Runs.field (by rfl) fa_37_2) rfl ?_
  refine Wd.takeR 5 rfl (by kernel_rfl) (by kernel_rfl) (by kernel_rfl) (fun _ _ _ _ h => h) (fun _ h => h) (Runs.load1 (by rfl) fl_34 (by repeat (first | exact Has.here | apply Has.there)) (by rfl)) rfl ?_
  refine Wd.takeP 6 rfl (by kernel_rfl) (by kernel_rfl) (by kernel_rfl) (fun _ _ _ _ h => h) (Runs.field (by rfl) fa_37_2) rfl ?_
  refine Wd.takeR 7 rfl (by kernel_rfl) (by kernel_rfl) (by kernel_rfl) (fun _ _ _ _ h => h) (fun _ h => h) (Runs.load1 (by rfl) fl_34 (by repeat (first | exact Has.here | apply Has.there)) (by rfl)) rfl ?_
  refine Wd.takeP 10 rfl (by kernel_rfl) (by kernel_rfl) (by kernel_rfl) (fun _ _ _ _ h => h) (Runs.field (by rfl) fa_37_3) rfl ?_
  refine Wd.takeR 11 rfl (by kernel_rfl) (by kernel_rfl) (by kernel_rfl) (fun _ _ _ _ h => h) (fun _ h => h) (Runs.load1 (by rfl) fl_29 (by repeat (first | exact Has.here | apply Has.there)) (by rfl)) rfl ?_
  refine Wd.takeP 12 rfl (by kernel_rfl) (by kernel_rfl) (by kernel_rfl) (fun _ _ _ _ h => h) (Runs.field (by rfl) fa_37_3) rfl ?_
  refine Wd.takeR 13 rfl (by kernel_rfl) (by kernel_rfl) (by kernel_rfl) (fun _ _ _ _ h => h) (fun _ h => h) (Runs.load1 (by rfl) fl_29 (by repeat (first | exact Has.here | apply Has.there)) (by rfl)) rfl ?_
  refine Wd.takeP 16 rfl (by kernel_rfl) (by kernel_rfl) (by kernel_rfl) (fun _ _ _ _ h => h) (Runs.field (by rfl) fa_37_4) rfl ?_
  refine Wd.takeR 17 rfl (by kernel_rfl) (by kernel_rfl) (by kernel_rfl) (fun _ _ _ _ h => h) (fun _ h => h) (Runs.load1 (by rfl) fl_4 (by repeat (first | exact Has.here | apply Has.there)) (by rfl)) rfl ?_
  refine Wd.takeP 18 rfl (by kernel_rfl) (by kernel_rfl) (by kernel_rfl) (fun _ _ _ _ h => h) (Runs.field (by rfl) fa_37_5) rfl ?_
  refine Wd.takeR 19 rfl (by kernel_rfl) (by kernel_rfl) (by kernel_rfl) (fun _ _ _ _ h => h) (fun _ h => h) (Runs.load1 (by rfl) fl_4 (by repeat (first | exact Has.here | apply Has.there)) (by rfl)) rfl ?_
  refine Wd.takeP 20 rfl (by kernel_rfl) (by kernel_rfl) (by kernel_rfl) (fun _ _ _ _ h => h) (Runs.field (by rfl) fa_37_6) rfl ?_
  refine Wd.takeR 21 rfl (by kernel_rfl) (by kernel_rfl) (by kernel_rfl) (fun _ _ _ _ h => h) (fun _ h => h) (Runs.load1 (by rfl) fl_34 (by repeat (first | exact Has.here | apply Has.there)) (by rfl)) rfl ?_
  refine Wd.takeP 24 rfl (by kernel_rfl) (by kernel_rfl) (by kernel_rfl) (fun _ _ _ _ h => h) (Runs.field (by rfl) fa_37_7) rfl ?_
  refine Wd.takeR 25 rfl (by kernel_rfl) (by kernel_rfl) (by kernel_rfl) (fun _ _ _ _ h => h) (fun _ h => h) (Runs.load1 (by rfl) fl_4 (by repeat (first | exact Has.here | apply Has.there)) (by rfl)) rfl ?_
  refine Wd.takeP 26 rfl (by kernel_rfl) (by kernel_rfl) (by kernel_rfl) (fun _ _ _ _ h => h) (Runs.field (by rfl) fa_37_8) rfl ?_
  refine Wd.takeR 27 rfl (by kernel_rfl) (by kernel_rfl) (by kernel_rfl) (fun _ _ _ _ h => h) (fun _ h => h) (Runs.load1 (by rfl) fl_29 (by repeat (first | exact Has.here | apply Has.there)) (by rfl)) rfl ?_
  refine Wd.takeP 30 rfl (by kernel_rfl) (by kernel_rfl) (by kernel_rfl) (fun _ _ _ _ h => h) (Runs.field (by rfl) fa_37_9) rfl ?_
  refine Wd.takeR 31 rfl (by kernel_rfl) (by kernel_rfl) (by kernel_rfl) (fun _ _ _ _ h => h) (fun _ h => h) (Runs.load1 (by rfl) fl_35 (by repeat (first | exact Has.here | apply Has.there)) (by rfl)) rfl ?_
  refine Wd.takeP 32 rfl (by kernel_rfl) (by kernel_rfl) (by kernel_rfl) (fun _ _ _ _ h => h) (Runs.field (by rfl) fa_37_9) rfl ?_
  refine Wd.takeR 33 rfl (by kernel_rfl) (by kernel_rfl) (by kernel_rfl) (fun _ _ _ _ h => h) (fun _ h => h) (Runs.load1 (by rfl) fl_35 (by repeat (first | exact Has.here | apply Has.there)) (by rfl)) rfl ?_
  refine Wd.items [rowI 8 14 2 34 [m1.da.v, m2.da.v], rowI 14 20 2 29 [m1.fr.v, m2.fr.v], rowI 22 28 1 34 [m1.re.v], rowI 28 34 1 29 [m1.ol.v], resI encR 9 15 (m1.da.xs ++ m2.da.xs) [8], resI encI 15 21 (m1.fr.xs ++ m2.fr.xs) [14], resI encR 23 29 m1.re.xs [22], resI encI 29 35 m1.ol.xs [28], resI encC 34 40 (puts m1.pl.xs m2.pl.xs) [], bldI m1 m2, varI 36 5 37 [.bool false, .int .i64 0, .slice none 0 0, .slice none 0 0, .bool false, .bool false, .slice none 0 0, .bool false, .slice none 0 0, .slice none 0 0]] (by kernel_rfl) (by kernel_rfl) (by show [8, 14, 22, 28, 9, 15, 23, 29, 34, 35, 36].Nodup; decide) (fun _ h => h) ⟨?_, ?_, ?_, ?_, ?_, ?_, ?_, ?_, ?_, ?_, ?_, trivial⟩ 1 (merge_fin m1 m2 ?_)
  · intro a w M hA _ _ hS
    exact item_valX rfl hA hS rfl (RunsX.buildSlice (U := 34) (cs := [m1.da.v, m2.da.v]) (by rfl) (fun _ => by kernel_rfl)) (fun x a' w' hx hw => rowR.put hx hw)
  · intro a w M hA _ _ hS
    exact item_valX rfl hA hS rfl (RunsX.buildSlice (U := 29) (cs := [m1.fr.v, m2.fr.v]) (by rfl) (fun _ => by kernel_rfl)) (fun x a' w' hx hw => rowR.put hx hw)
  · intro a w M hA _ _ hS
    exact item_valX rfl hA hS rfl (RunsX.buildSlice (U := 34) (cs := [m1.re.v]) (by rfl) (fun _ => by kernel_rfl)) (fun x a' w' hx hw => rowR.put hx hw)
  · intro a w M hA _ _ hS
    exact item_valX rfl hA hS rfl (RunsX.buildSlice (U := 29) (cs := [m1.ol.v]) (by rfl) (fun _ => by kernel_rfl)) (fun x a' w' hx hw => rowR.put hx hw)
  · intro a w M hA hp hM hS
    obtain ⟨hrow, hr⟩ := rowR.rds (T := 34) (ss := [m1.da, m2.da]) (len := 2) rfl (hp _ (.head _) (List.mem_singleton.2 rfl)) hS
    exact item_call (vs := [(⟨some ⟨vb (slots a 14), 0, none⟩, 2, [m1.da, m2.da]⟩ : Sli (Sli _)).v]) rfl (hA.slot rfl hrow) hS rfl en_89 (by rfl) (all_R (row := ⟨some ⟨vb (slots a 14), 0, none⟩, 2, [m1.da, m2.da]⟩) hr (by simp only [List.mem_cons, List.not_mem_nil, or_false, forall_eq_or_imp, forall_eq]; exact ⟨(r1.there.there.there.weak hM).da, (r2.there.there.there.weak hM).da⟩) (by simp only [tot, List.map_cons, List.map_nil, List.sum_cons, List.sum_nil]; omega) (by simp)) (fun x a' w' hx hw => resR.put hx (by rw [x.2]; simp [cat]) hw)
  · intro a w M hA hp hM hS
    obtain ⟨hrow, hr⟩ := rowR.rds (T := 29) (ss := [m1.fr, m2.fr]) (len := 2) rfl (hp _ (.tail _ (.head _)) (List.mem_singleton.2 rfl)) hS
    exact item_call (vs := [(⟨some ⟨vb (slots a 20), 0, none⟩, 2, [m1.fr, m2.fr]⟩ : Sli (Sli _)).v]) rfl (hA.slot rfl hrow) hS rfl en_90 (by rfl) (all_I (row := ⟨some ⟨vb (slots a 20), 0, none⟩, 2, [m1.fr, m2.fr]⟩) hr (by simp only [List.mem_cons, List.not_mem_nil, or_false, forall_eq_or_imp, forall_eq]; exact ⟨(r1.there.there.there.weak hM).fr, (r2.there.there.there.weak hM).fr⟩) (by simp only [tot, List.map_cons, List.map_nil, List.sum_cons, List.sum_nil]; omega) (by simp)) (fun x a' w' hx hw => resR.put hx (by rw [x.2]; simp [cat]) hw)
  · intro a w M hA hp hM hS
    obtain ⟨hrow, hr⟩ := rowR.rds (T := 34) (ss := [m1.re]) (len := 1) rfl (hp _ (.tail _ (.tail _ (.head _))) (List.mem_singleton.2 rfl)) hS
    exact item_call (vs := [(⟨some ⟨vb (slots a 28), 0, none⟩, 1, [m1.re]⟩ : Sli (Sli _)).v]) rfl (hA.slot rfl hrow) hS rfl en_89 (by rfl) (all_R (row := ⟨some ⟨vb (slots a 28), 0, none⟩, 1, [m1.re]⟩) hr (by simp only [List.mem_cons, List.not_mem_nil, or_false, forall_eq_or_imp, forall_eq]; exact (r1.there.there.there.weak hM).re) (by simp only [tot, List.map_cons, List.map_nil, List.sum_cons, List.sum_nil]; omega) (by simp)) (fun x a' w' hx hw => resR.put hx (by rw [x.2]; simp [cat]) hw)
  · intro a w M hA hp hM hS
    obtain ⟨hrow, hr⟩ := rowR.rds (T := 29) (ss := [m1.ol]) (len := 1) rfl (hp _ (.tail _ (.tail _ (.tail _ (.head _)))) (List.mem_singleton.2 rfl)) hS
    exact item_call (vs := [(⟨some ⟨vb (slots a 34), 0, none⟩, 1, [m1.ol]⟩ : Sli (Sli _)).v]) rfl (hA.slot rfl hrow) hS rfl en_90 (by rfl) (all_I (row := ⟨some ⟨vb (slots a 34), 0, none⟩, 1, [m1.ol]⟩) hr (by simp only [List.mem_cons, List.not_mem_nil, or_false, forall_eq_or_imp, forall_eq]; exact (r1.there.there.there.weak hM).ol) (by simp only [tot, List.map_cons, List.map_nil, List.sum_cons, List.sum_nil]; omega) (by simp)) (fun x a' w' hx hw => resR.put hx (by rw [x.2]; simp [cat]) hw)
  · intro a w M hA hp hM hS
    exact item_call rfl hA hS rfl en_91 (by rfl) (places_spec (r1.there.there.there.weak hM).pl (r2.there.there.there.weak hM).pl (by omega)) (fun x a' w' hx hw => resR.put hx x.2 hw)
  · intro a w M hA hp hM hS
    have e1 := (resR.get (hp _ (.tail _ (.tail _ (.tail _ (.tail _ (.head _))))) (by show (9 : Nat) ∈ [9, 15, 23, 29, 34]; decide) w hS)).1
    have e2 := (resR.get (hp _ (.tail _ (.tail _ (.tail _ (.tail _ (.tail _ (.head _)))))) (by show (15 : Nat) ∈ [9, 15, 23, 29, 34]; decide) w hS)).1
    have e3 := (resR.get (hp _ (.tail _ (.tail _ (.tail _ (.tail _ (.tail _ (.tail _ (.head _))))))) (by show (23 : Nat) ∈ [9, 15, 23, 29, 34]; decide) w hS)).1
    have e4 := (resR.get (hp _ (.tail _ (.tail _ (.tail _ (.tail _ (.tail _ (.tail _ (.tail _ (.head _)))))))) (by show (29 : Nat) ∈ [9, 15, 23, 29, 34]; decide) w hS)).1
    have e5 := (resR.get (hp _ (.tail _ (.tail _ (.tail _ (.tail _ (.tail _ (.tail _ (.tail _ (.tail _ (.head _))))))))) (by show (34 : Nat) ∈ [9, 15, 23, 29, 34]; decide) w hS)).1
    exact item_val (v := .agg #[.bool m1.at_, .int .i64 m1.bu, (sliOf (slots a 15) (m1.da.xs ++ m2.da.xs) : Sli Rc).v, (sliOf (slots a 21) (m1.fr.xs ++ m2.fr.xs) : Sli Int).v, .bool m1.inp, .bool m1.all, (sliOf (slots a 29) (m1.re.xs) : Sli Rc).v, .bool m1.ord, (sliOf (slots a 35) (m1.ol.xs) : Sli Int).v, (sliOf (slots a 40) (puts m1.pl.xs m2.pl.xs) : Sli Ch).v]) rfl (((((hA.slot rfl e1).slot rfl e2).slot rfl e3).slot rfl e4).slot rfl e5) hS rfl (Runs.build (by rfl) (fun _ => by kernel_rfl)) (fun a' w' hv hk hw => Sat.toPure hw (by have hv' : slots a' 41 = _ := hv; rw [hv', hk 15 (show (15 : Nat) ≠ 41 by decide), hk 21 (show (21 : Nat) ≠ 41 by decide), hk 29 (show (29 : Nat) ≠ 41 by decide), hk 35 (show (35 : Nat) ≠ 41 by decide), hk 40 (show (40 : Nat) ≠ 41 by decide)]))
  · intro a w M hA _ _ hS
    exact item_valX rfl hA hS rfl (RunsX.alloc (cs := [.bool false, .int .i64 0, .slice none 0 0, .slice none 0 0, .bool false, .bool false, .slice none 0 0, .bool false, .slice none 0 0, .slice none 0 0]) zr_37 rfl) (fun x a' w' hx hw => varR.put hx hw)
  intro q1 hq1 q2 hq2 q3 hq3 q4 hq4 q5 hq5 b5
  refine Wd.act 37 rfl (by kernel_rfl) (Acts.store (vs := [_, _, _, _, _, _, _, _, _, _]) (by rfl) (by rfl) sz_37 (by rfl) (by rfl) (by rfl) (by repeat (first | exact Has.here | apply Has.there)) (by exact Nat.le_of_ble_eq_true rfl) (by simp only [Srf.cells, RSt.cells, List.cons_append, List.nil_append, wrs, List.set_cons_zero, List.set_cons_succ, Nat.reduceAdd, Nat.zero_add, Nat.add_zero]; rfl) (by repeat (first | exact UpdL.cel | apply UpdL.there))) (fun h => (nomatch h)) ?_
  refine Wd.done (by kernel_rfl) ?_
  refine At.env [(3, _), (4, _), (5, _)] ⟨by rfl, by rfl, by rfl, trivial⟩ ?_
  refine At.then_ ?_
  refine Wc.seq ?_
  refine Wc.seq ?_
  -- R2
  refine Wc.region ?_
  refine Wl.val (Runs.field (by rfl) fa_37_0) rfl ?_
  refine Wl.val (Runs.load1 (by rfl) fl_4 (by repeat (first | exact Has.here | apply Has.there)) (by rfl)) rfl ?_
  refine Wl.nil ?_
  refine At.env [(3, _), (4, _), (5, _), (43, _)] ⟨by rfl, by rfl, by rfl, by rfl, trivial⟩ ?_
  refine At.then_ ?_
  -- if 0
  first | refine Wc.ifd (by rfl) (fun h1 => ?_) (fun h1 => ?_) | refine Wc.ifb (by rfl) (fun h1 => ?_) (fun h1 => ?_)
  · skip
    -- R3
    refine Wd.begin (fun i => !(Nat.beq i 5)) ([cel b3 37 [.bool m2.at_, .int .i64 m2.bu, m2.da.v, m2.fr.v, .bool m2.inp, .bool m2.all, m2.re.v, .bool m2.ord, m2.ol.v, m2.pl.v]]) mixed ?_
    dsimp only [List.length_cons, List.length_nil, Nat.reduceAdd]
    refine Wd.takeP 0 rfl (by kernel_rfl) (by kernel_rfl) (by kernel_rfl) (fun _ _ _ _ h => h) (Runs.field (by rfl) fa_37_1) rfl ?_
    refine Wd.takeR 1 rfl (by kernel_rfl) (by kernel_rfl) (by kernel_rfl) (fun _ _ _ _ h => h) (fun _ h => (by repeat (first | exact Inc.here | refine Inc.there ?_) : Inc _ _) _ h) (Runs.load1 (by rfl) fl_3 (by repeat (first | exact Has.here | apply Has.there)) (by rfl)) rfl ?_
    refine Wd.takeP 2 rfl (by kernel_rfl) (by kernel_rfl) (by kernel_rfl) (fun _ _ _ _ h => h) (Runs.field (by rfl) fa_37_0) rfl ?_
    refine Wd.act 3 rfl (by kernel_rfl) (Acts.store (vs := [_]) (by rfl) (by rfl) sz_4 (by rfl) (by rfl) (by rfl) (by repeat (first | exact Has.here | apply Has.there)) (by exact Nat.le_of_ble_eq_true rfl) (by simp only [Srf.cells, RSt.cells, List.cons_append, List.nil_append, wrs, List.set_cons_zero, List.set_cons_succ, Nat.reduceAdd, Nat.zero_add, Nat.add_zero]; rfl) (by repeat (first | exact UpdL.cel | apply UpdL.there))) (fun _ => (fun _ h => (by repeat (first | exact Inc.here | refine Inc.there ?_) : Inc _ _) _ h)) ?_
    refine Wd.takeP 4 rfl (by kernel_rfl) (by kernel_rfl) (by kernel_rfl) (fun _ _ _ _ h => h) (Runs.field (by rfl) fa_37_1) rfl ?_
    refine Wd.act 5 rfl (by kernel_rfl) (Acts.store (vs := [_]) (by rfl) (by rfl) sz_3 (by rfl) (by rfl) (by rfl) (by repeat (first | exact Has.here | apply Has.there)) (by exact Nat.le_of_ble_eq_true rfl) (by simp only [Srf.cells, RSt.cells, List.cons_append, List.nil_append, wrs, List.set_cons_zero, List.set_cons_succ, Nat.reduceAdd, Nat.zero_add, Nat.add_zero]; rfl) (by repeat (first | exact UpdL.cel | apply UpdL.there))) (fun h => (nomatch h)) ?_
    refine Wd.done (by kernel_rfl) ?_
    refine At.env [(3, _), (4, _), (5, _)] ⟨by rfl, by rfl, by rfl, trivial⟩ ?_
    refine At.then_ ?_
    refine Wc.seq ?_
    refine Wc.seq ?_
    -- R4
    refine Wc.region ?_
    refine Wl.val (Runs.field (by rfl) fa_37_4) rfl ?_
    refine Wl.val (Runs.load1 (by rfl) fl_4 (by repeat (first | exact Has.here | apply Has.there)) (by rfl)) rfl ?_
    refine Wl.nil ?_
    refine At.env [(3, _), (4, _), (5, _), (49, _)] ⟨by rfl, by rfl, by rfl, by rfl, trivial⟩ ?_
    refine At.then_ ?_
    -- if 1
    first | refine Wc.ifd (by rfl) (fun h2 => ?_) (fun h2 => ?_) | refine Wc.ifb (by rfl) (fun h2 => ?_) (fun h2 => ?_)
    · skip
      -- R5
      refine Wd.begin (fun i => !(Nat.beq i 11)) ([cel b3 37 [.bool m2.at_, .int .i64 m2.bu, m2.da.v, m2.fr.v, .bool m2.inp, .bool m2.all, m2.re.v, .bool m2.ord, m2.ol.v, m2.pl.v]]) mixed ?_
      dsimp only [List.length_cons, List.length_nil, Nat.reduceAdd]
      refine Wd.takeP 0 rfl (by kernel_rfl) (by kernel_rfl) (by kernel_rfl) (fun _ _ _ _ h => h) (Runs.field (by rfl) fa_37_5) rfl ?_
      refine Wd.takeR 1 rfl (by kernel_rfl) (by kernel_rfl) (by kernel_rfl) (fun _ _ _ _ h => h) (fun _ h => (by repeat (first | exact Inc.here | refine Inc.there ?_) : Inc _ _) _ h) (Runs.load1 (by rfl) fl_4 (by repeat (first | exact Has.here | apply Has.there)) (by rfl)) rfl ?_
      refine Wd.takeP 2 rfl (by kernel_rfl) (by kernel_rfl) (by kernel_rfl) (fun _ _ _ _ h => h) (Runs.field (by rfl) fa_37_6) rfl ?_
      refine Wd.takeR 3 rfl (by kernel_rfl) (by kernel_rfl) (by kernel_rfl) (fun _ _ _ _ h => h) (fun _ h => (by repeat (first | exact Inc.here | refine Inc.there ?_) : Inc _ _) _ h) (Runs.load1 (by rfl) fl_34 (by repeat (first | exact Has.here | apply Has.there)) (by rfl)) rfl ?_
      refine Wd.takeP 6 rfl (by kernel_rfl) (by kernel_rfl) (by kernel_rfl) (fun _ _ _ _ h => h) (Runs.field (by rfl) fa_37_4) rfl ?_
      refine Wd.valX 4 rfl (by kernel_rfl) (RunsX.buildSlice (U := 34) (cs := ([m2.re].map Sli.v)) (by rfl) (fun _ => by kernel_rfl)) (fun _ _ => (fun _ h => (by repeat (first | exact Inc.here | refine Inc.there ?_) : Inc _ _) _ h)) rfl (fun b54 => ?_)
      try dsimp only
      refine Wd.call 5 rfl (by kernel_rfl) en_89 (by rfl) (fun _ _ => wanted_none rfl _) (all_R (row := ⟨some ⟨b54, 0, none⟩, 1, [m2.re]⟩) rds_row (by simp only [List.mem_singleton, forall_eq]; exact (r2.weak (fun _ h => Pick.sat (by repeat (first | exact Pick.refl | refine Pick.drop ?_)) h)).re) (by simp only [tot, List.map_cons, List.map_nil, List.sum_cons, List.sum_nil]; omega) (by simp)) (fun _ _ => (fun _ h => (by repeat (first | exact Inc.here | refine Inc.there ?_) : Inc _ _) _ h)) rfl (fun q6 => ?_)
      try dsimp only
      refine Wd.act 7 rfl (by kernel_rfl) (Acts.store (vs := [_]) (by rfl) (by rfl) sz_4 (by rfl) (by rfl) (by rfl) (by repeat (first | exact Has.here | apply Has.there)) (by exact Nat.le_of_ble_eq_true rfl) (by simp only [Srf.cells, RSt.cells, List.cons_append, List.nil_append, wrs, List.set_cons_zero, List.set_cons_succ, Nat.reduceAdd, Nat.zero_add, Nat.add_zero]; rfl) (by repeat (first | exact UpdL.cel | apply UpdL.there))) (fun _ => (fun _ h => (by repeat (first | exact Inc.here | refine Inc.there ?_) : Inc _ _) _ h)) ?_
      refine Wd.takeP 8 rfl (by kernel_rfl) (by kernel_rfl) (by kernel_rfl) (fun _ _ _ _ h => h) (Runs.field (by rfl) fa_37_5) rfl ?_
      refine Wd.act 9 rfl (by kernel_rfl) (Acts.store (vs := [_]) (by rfl) (by rfl) sz_4 (by rfl) (by rfl) (by rfl) (by repeat (first | exact Has.here | apply Has.there)) (by exact Nat.le_of_ble_eq_true rfl) (by simp only [Srf.cells, RSt.cells, List.cons_append, List.nil_append, wrs, List.set_cons_zero, List.set_cons_succ, Nat.reduceAdd, Nat.zero_add, Nat.add_zero]; rfl) (by repeat (first | exact UpdL.cel | apply UpdL.there))) (fun _ => (fun _ h => (by repeat (first | exact Inc.here | refine Inc.there ?_) : Inc _ _) _ h)) ?_
      refine Wd.takeP 10 rfl (by kernel_rfl) (by kernel_rfl) (by kernel_rfl) (fun _ _ _ _ h => h) (Runs.field (by rfl) fa_37_6) rfl ?_
      refine Wd.act 11 rfl (by kernel_rfl) (Acts.store (vs := [_]) (by rfl) (by rfl) sz_34 (by rfl) (by rfl) (by rfl) (by repeat (first | exact Has.here | apply Has.there)) (by exact Nat.le_of_ble_eq_true rfl) (by simp only [Srf.cells, RSt.cells, List.cons_append, List.nil_append, wrs, List.set_cons_zero, List.set_cons_succ, Nat.reduceAdd, Nat.zero_add, Nat.add_zero]; rfl) (by repeat (first | exact UpdL.cel | apply UpdL.there))) (fun h => (nomatch h)) ?_
      refine Wd.done (by kernel_rfl) ?_
      refine At.env [(3, _), (4, _), (5, _)] ⟨by rfl, by rfl, by rfl, trivial⟩ ?_
      refine At.then_ ?_
      refine Wc.seq ?_
      refine Wc.seq ?_
      -- R6
      refine Wc.region ?_
      refine Wl.val (Runs.field (by rfl) fa_37_7) rfl ?_
      refine Wl.val (Runs.load1 (by rfl) fl_4 (by repeat (first | exact Has.here | apply Has.there)) (by rfl)) rfl ?_
      refine Wl.nil ?_
      refine At.env [(3, _), (4, _), (5, _), (60, _)] ⟨by rfl, by rfl, by rfl, by rfl, trivial⟩ ?_
      refine At.then_ ?_
      -- if 2
      first | refine Wc.ifd (by rfl) (fun h3 => ?_) (fun h3 => ?_) | refine Wc.ifb (by rfl) (fun h3 => ?_) (fun h3 => ?_)
      · skip
        -- R7
        refine Wc.region ?_
        refine Wl.val (Runs.field (by rfl) fa_37_8) rfl ?_
        refine Wl.val (Runs.load1 (by rfl) fl_29 (by repeat (first | exact Has.here | apply Has.there)) (by rfl)) rfl ?_
        refine Wl.valX (RunsX.buildSlice (U := 29) (cs := ([m2.ol].map Sli.v)) (by rfl) (fun _ => by kernel_rfl)) rfl (fun b63 => ?_)
        try dsimp only
        refine Wl.call en_90 (by rfl) (all_I (row := ⟨some ⟨b63, 0, none⟩, 1, [m2.ol]⟩) rds_row (by simp only [List.mem_singleton, forall_eq]; exact (r2.weak (fun _ h => Pick.sat (by repeat (first | exact Pick.refl | refine Pick.drop ?_)) h)).ol) (by simp only [tot, List.map_cons, List.map_nil, List.sum_cons, List.sum_nil]; omega) (by simp)) rfl (fun q7 => ?_)
        try dsimp only
        refine Wl.val (Runs.field (by rfl) fa_37_7) rfl ?_
        refine Wl.act (Acts.store (vs := [_]) (by rfl) (by rfl) sz_4 (by rfl) (by rfl) (by rfl) (by repeat (first | exact Has.here | apply Has.there)) (by exact Nat.le_of_ble_eq_true rfl) (by simp only [Srf.cells, RSt.cells, List.cons_append, List.nil_append, wrs, List.set_cons_zero, List.set_cons_succ, Nat.reduceAdd, Nat.zero_add, Nat.add_zero]; rfl) (by repeat (first | exact UpdL.cel | apply UpdL.there))) ?_
        refine Wl.val (Runs.field (by rfl) fa_37_8) rfl ?_
        refine Wl.act (Acts.store (vs := [_]) (by rfl) (by rfl) sz_29 (by rfl) (by rfl) (by rfl) (by repeat (first | exact Has.here | apply Has.there)) (by exact Nat.le_of_ble_eq_true rfl) (by simp only [Srf.cells, RSt.cells, List.cons_append, List.nil_append, wrs, List.set_cons_zero, List.set_cons_succ, Nat.reduceAdd, Nat.zero_add, Nat.add_zero]; rfl) (by repeat (first | exact UpdL.cel | apply UpdL.there))) ?_
        refine Wl.nil ?_
        refine At.env [(4, _), (5, _)] ⟨by rfl, by rfl, trivial⟩ ?_
        refine At.then_ ?_
        refine Wc.seq ?_
        -- R8
        refine Wc.region ?_
        refine Wl.val (Runs.loadN (vs := [_, _, _, _, _, _, _, _, _, _]) (by rfl) ag_37 (by repeat (first | exact Has.here | apply Has.there)) (by rfl) (by rfl)) rfl ?_
        refine Wl.act (Acts.store (vs := [_, _, _, _, _, _, _, _, _, _]) (by rfl) (by rfl) sz_37 (by rfl) (by rfl) (by rfl) (by repeat (first | exact Has.here | apply Has.there)) (by exact Nat.le_of_ble_eq_true rfl) (by simp only [Srf.cells, RSt.cells, List.cons_append, List.nil_append, wrs, List.set_cons_zero, List.set_cons_succ, Nat.reduceAdd, Nat.zero_add, Nat.add_zero]; rfl) (by repeat (first | exact UpdL.cel | apply UpdL.there))) ?_
        refine Wl.nil ?_
        refine At.env [(4, _)] ⟨by rfl, trivial⟩ ?_
        refine At.then_ ?_
        refine Wc.ret ?_
        repeat (first | refine At.thenRet ?_ | refine At.blockRet ?_)
        -- ret 0
        exact At.retN (⟨⟨true, m2.bu, q1, q2, true, m2.all, q6.1, true, q7.1, q5⟩, by simp [RSt.abs, PSt.merge, hq1, hq2, hq3, hq4, hq5, ‹m2.at_ = true›, ‹m2.inp = true›, ‹m2.ord = true›, q6.2, cat, q7.2, cat]⟩) rfl (by rfl) ag_37 (by repeat (first | exact Has.here | apply Has.there)) (vs := [_, _, _, _, _, _, _, _, _, _]) (by rfl) (by rfl) (by rfl) (fun _ h => Pick.sat (by refine Pick.cons (by repeat (first | exact Rem.here | apply Rem.there)) ?_; refine Pick.cons (by repeat (first | exact Rem.here | apply Rem.there)) ?_; refine Pick.cons (by repeat (first | exact Rem.here | apply Rem.there)) ?_; refine Pick.cons (by repeat (first | exact Rem.here | apply Rem.there)) ?_; refine Pick.cons (by repeat (first | exact Rem.here | apply Rem.there)) ?_; repeat (first | exact Pick.refl | refine Pick.drop ?_)) h)
      · skip
        refine Wc.skip ?_
        refine At.then_ ?_
        refine Wc.seq ?_
        -- R8
        refine Wc.region ?_
        refine Wl.val (Runs.loadN (vs := [_, _, _, _, _, _, _, _, _, _]) (by rfl) ag_37 (by repeat (first | exact Has.here | apply Has.there)) (by rfl) (by rfl)) rfl ?_
        refine Wl.act (Acts.store (vs := [_, _, _, _, _, _, _, _, _, _]) (by rfl) (by rfl) sz_37 (by rfl) (by rfl) (by rfl) (by repeat (first | exact Has.here | apply Has.there)) (by exact Nat.le_of_ble_eq_true rfl) (by simp only [Srf.cells, RSt.cells, List.cons_append, List.nil_append, wrs, List.set_cons_zero, List.set_cons_succ, Nat.reduceAdd, Nat.zero_add, Nat.add_zero]; rfl) (by repeat (first | exact UpdL.cel | apply UpdL.there))) ?_
        refine Wl.nil ?_
        refine At.env [(4, _)] ⟨by rfl, trivial⟩ ?_
        refine At.then_ ?_
        refine Wc.ret ?_
        repeat (first | refine At.thenRet ?_ | refine At.blockRet ?_)
        -- ret 1
        exact At.retN (⟨⟨true, m2.bu, q1, q2, true, m2.all, q6.1, m1.ord, q4, q5⟩, by simp [RSt.abs, PSt.merge, hq1, hq2, hq3, hq4, hq5, ‹m2.at_ = true›, ‹m2.inp = true›, ‹m2.ord = false›, q6.2, cat]⟩) rfl (by rfl) ag_37 (by repeat (first | exact Has.here | apply Has.there)) (vs := [_, _, _, _, _, _, _, _, _, _]) (by rfl) (by rfl) (by rfl) (fun _ h => Pick.sat (by refine Pick.cons (by repeat (first | exact Rem.here | apply Rem.there)) ?_; refine Pick.cons (by repeat (first | exact Rem.here | apply Rem.there)) ?_; refine Pick.cons (by repeat (first | exact Rem.here | apply Rem.there)) ?_; refine Pick.cons (by repeat (first | exact Rem.here | apply Rem.there)) ?_; refine Pick.cons (by repeat (first | exact Rem.here | apply Rem.there)) ?_; repeat (first | exact Pick.refl | refine Pick.drop ?_)) h)
    · skip
      refine Wc.skip ?_
      refine At.then_ ?_
      refine Wc.seq ?_
      refine Wc.seq ?_
      -- R6
      refine Wc.region ?_
      refine Wl.val (Runs.field (by rfl) fa_37_7) rfl ?_
      refine Wl.val (Runs.load1 (by rfl) fl_4 (by repeat (first | exact Has.here | apply Has.there)) (by rfl)) rfl ?_
      refine Wl.nil ?_
      refine At.env [(3, _), (4, _), (5, _), (60, _)] ⟨by rfl, by rfl, by rfl, by rfl, trivial⟩ ?_
      refine At.then_ ?_
      -- if 3
      first | refine Wc.ifd (by rfl) (fun h4 => ?_) (fun h4 => ?_) | refine Wc.ifb (by rfl) (fun h4 => ?_) (fun h4 => ?_)
      · skip
        -- R7
        refine Wc.region ?_
        refine Wl.val (Runs.field (by rfl) fa_37_8) rfl ?_
        refine Wl.val (Runs.load1 (by rfl) fl_29 (by repeat (first | exact Has.here | apply Has.there)) (by rfl)) rfl ?_
        refine Wl.valX (RunsX.buildSlice (U := 29) (cs := ([m2.ol].map Sli.v)) (by rfl) (fun _ => by kernel_rfl)) rfl (fun b63 => ?_)
        try dsimp only
        refine Wl.call en_90 (by rfl) (all_I (row := ⟨some ⟨b63, 0, none⟩, 1, [m2.ol]⟩) rds_row (by simp only [List.mem_singleton, forall_eq]; exact (r2.weak (fun _ h => Pick.sat (by repeat (first | exact Pick.refl | refine Pick.drop ?_)) h)).ol) (by simp only [tot, List.map_cons, List.map_nil, List.sum_cons, List.sum_nil]; omega) (by simp)) rfl (fun q7 => ?_)
        try dsimp only
        refine Wl.val (Runs.field (by rfl) fa_37_7) rfl ?_
        refine Wl.act (Acts.store (vs := [_]) (by rfl) (by rfl) sz_4 (by rfl) (by rfl) (by rfl) (by repeat (first | exact Has.here | apply Has.there)) (by exact Nat.le_of_ble_eq_true rfl) (by simp only [Srf.cells, RSt.cells, List.cons_append, List.nil_append, wrs, List.set_cons_zero, List.set_cons_succ, Nat.reduceAdd, Nat.zero_add, Nat.add_zero]; rfl) (by repeat (first | exact UpdL.cel | apply UpdL.there))) ?_
        refine Wl.val (Runs.field (by rfl) fa_37_8) rfl ?_
        refine Wl.act (Acts.store (vs := [_]) (by rfl) (by rfl) sz_29 (by rfl) (by rfl) (by rfl) (by repeat (first | exact Has.here | apply Has.there)) (by exact Nat.le_of_ble_eq_true rfl) (by simp only [Srf.cells, RSt.cells, List.cons_append, List.nil_append, wrs, List.set_cons_zero, List.set_cons_succ, Nat.reduceAdd, Nat.zero_add, Nat.add_zero]; rfl) (by repeat (first | exact UpdL.cel | apply UpdL.there))) ?_
        refine Wl.nil ?_
        refine At.env [(4, _), (5, _)] ⟨by rfl, by rfl, trivial⟩ ?_
        refine At.then_ ?_
        refine Wc.seq ?_
        -- R8
        refine Wc.region ?_
        refine Wl.val (Runs.loadN (vs := [_, _, _, _, _, _, _, _, _, _]) (by rfl) ag_37 (by repeat (first | exact Has.here | apply Has.there)) (by rfl) (by rfl)) rfl ?_
        refine Wl.act (Acts.store (vs := [_, _, _, _, _, _, _, _, _, _]) (by rfl) (by rfl) sz_37 (by rfl) (by rfl) (by rfl) (by repeat (first | exact Has.here | apply Has.there)) (by exact Nat.le_of_ble_eq_true rfl) (by simp only [Srf.cells, RSt.cells, List.cons_append, List.nil_append, wrs, List.set_cons_zero, List.set_cons_succ, Nat.reduceAdd, Nat.zero_add, Nat.add_zero]; rfl) (by repeat (first | exact UpdL.cel | apply UpdL.there))) ?_
        refine Wl.nil ?_
        refine At.env [(4, _)] ⟨by rfl, trivial⟩ ?_
        refine At.then_ ?_
        refine Wc.ret ?_
        repeat (first | refine At.thenRet ?_ | refine At.blockRet ?_)
        -- ret 2
        exact At.retN (⟨⟨true, m2.bu, q1, q2, m1.inp, m1.all, q3, true, q7.1, q5⟩, by simp [RSt.abs, PSt.merge, hq1, hq2, hq3, hq4, hq5, ‹m2.at_ = true›, ‹m2.inp = false›, ‹m2.ord = true›, q7.2, cat]⟩) rfl (by rfl) ag_37 (by repeat (first | exact Has.here | apply Has.there)) (vs := [_, _, _, _, _, _, _, _, _, _]) (by rfl) (by rfl) (by rfl) (fun _ h => Pick.sat (by refine Pick.cons (by repeat (first | exact Rem.here | apply Rem.there)) ?_; refine Pick.cons (by repeat (first | exact Rem.here | apply Rem.there)) ?_; refine Pick.cons (by repeat (first | exact Rem.here | apply Rem.there)) ?_; refine Pick.cons (by repeat (first | exact Rem.here | apply Rem.there)) ?_; refine Pick.cons (by repeat (first | exact Rem.here | apply Rem.there)) ?_; repeat (first | exact Pick.refl | refine Pick.drop ?_)) h)
      · skip
        refine Wc.skip ?_
        refine At.then_ ?_
        refine Wc.seq ?_
        -- R8
        refine Wc.region ?_
        refine Wl.val (Runs.loadN (vs := [_, _, _, _, _, _, _, _, _, _]) (by rfl) ag_37 (by repeat (first | exact Has.here | apply Has.there)) (by rfl) (by rfl)) rfl ?_
        refine Wl.act (Acts.store (vs := [_, _, _, _, _, _, _, _, _, _]) (by rfl) (by rfl) sz_37 (by rfl) (by rfl) (by rfl) (by repeat (first | exact Has.here | apply Has.there)) (by exact Nat.le_of_ble_eq_true rfl) (by simp only [Srf.cells, RSt.cells, List.cons_append, List.nil_append, wrs, List.set_cons_zero, List.set_cons_succ, Nat.reduceAdd, Nat.zero_add, Nat.add_zero]; rfl) (by repeat (first | exact UpdL.cel | apply UpdL.there))) ?_
        refine Wl.nil ?_
        refine At.env [(4, _)] ⟨by rfl, trivial⟩ ?_
        refine At.then_ ?_
        refine Wc.ret ?_
        repeat (first | refine At.thenRet ?_ | refine At.blockRet ?_)
        -- ret 3
        exact At.retN (⟨⟨true, m2.bu, q1, q2, m1.inp, m1.all, q3, m1.ord, q4, q5⟩, by simp [RSt.abs, PSt.merge, hq1, hq2, hq3, hq4, hq5, ‹m2.at_ = true›, ‹m2.inp = false›, ‹m2.ord = false›]⟩) rfl (by rfl) ag_37 (by repeat (first | exact Has.here | apply Has.there)) (vs := [_, _, _, _, _, _, _, _, _, _]) (by rfl) (by rfl) (by rfl) (fun _ h => Pick.sat (by refine Pick.cons (by repeat (first | exact Rem.here | apply Rem.there)) ?_; refine Pick.cons (by repeat (first | exact Rem.here | apply Rem.there)) ?_; refine Pick.cons (by repeat (first | exact Rem.here | apply Rem.there)) ?_; refine Pick.cons (by repeat (first | exact Rem.here | apply Rem.there)) ?_; refine Pick.cons (by repeat (first | exact Rem.here | apply Rem.there)) ?_; repeat (first | exact Pick.refl | refine Pick.drop ?_)) h)
  · skip
    refine Wc.skip ?_
    refine At.then_ ?_
    refine Wc.seq ?_
    refine Wc.seq ?_
    -- R4
    refine Wc.region ?_
    refine Wl.val (Runs.field (by rfl) fa_37_4) rfl ?_
    refine Wl.val (Runs.load1 (by rfl) fl_4 (by repeat (first | exact Has.here | apply Has.there)) (by rfl)) rfl ?_
    refine Wl.nil ?_
    refine At.env [(3, _), (4, _), (5, _), (49, _)] ⟨by rfl, by rfl, by rfl, by rfl, trivial⟩ ?_
    refine At.then_ ?_
    -- if 4
    first | refine Wc.ifd (by rfl) (fun h5 => ?_) (fun h5 => ?_) | refine Wc.ifb (by rfl) (fun h5 => ?_) (fun h5 => ?_)
    · skip
      -- R5
      refine Wd.begin (fun i => !(Nat.beq i 11)) ([cel b3 37 [.bool m2.at_, .int .i64 m2.bu, m2.da.v, m2.fr.v, .bool m2.inp, .bool m2.all, m2.re.v, .bool m2.ord, m2.ol.v, m2.pl.v]]) mixed ?_
      dsimp only [List.length_cons, List.length_nil, Nat.reduceAdd]
      refine Wd.takeP 0 rfl (by kernel_rfl) (by kernel_rfl) (by kernel_rfl) (fun _ _ _ _ h => h) (Runs.field (by rfl) fa_37_5) rfl ?_
      refine Wd.takeR 1 rfl (by kernel_rfl) (by kernel_rfl) (by kernel_rfl) (fun _ _ _ _ h => h) (fun _ h => (by repeat (first | exact Inc.here | refine Inc.there ?_) : Inc _ _) _ h) (Runs.load1 (by rfl) fl_4 (by repeat (first | exact Has.here | apply Has.there)) (by rfl)) rfl ?_
      refine Wd.takeP 2 rfl (by kernel_rfl) (by kernel_rfl) (by kernel_rfl) (fun _ _ _ _ h => h) (Runs.field (by rfl) fa_37_6) rfl ?_
      refine Wd.takeR 3 rfl (by kernel_rfl) (by kernel_rfl) (by kernel_rfl) (fun _ _ _ _ h => h) (fun _ h => (by repeat (first | exact Inc.here | refine Inc.there ?_) : Inc _ _) _ h) (Runs.load1 (by rfl) fl_34 (by repeat (first | exact Has.here | apply Has.there)) (by rfl)) rfl ?_
      refine Wd.takeP 6 rfl (by kernel_rfl) (by kernel_rfl) (by kernel_rfl) (fun _ _ _ _ h => h) (Runs.field (by rfl) fa_37_4) rfl ?_
      refine Wd.valX 4 rfl (by kernel_rfl) (RunsX.buildSlice (U := 34) (cs := ([m2.re].map Sli.v)) (by rfl) (fun _ => by kernel_rfl)) (fun _ _ => (fun _ h => (by repeat (first | exact Inc.here | refine Inc.there ?_) : Inc _ _) _ h)) rfl (fun b54 => ?_)
      try dsimp only
      refine Wd.call 5 rfl (by kernel_rfl) en_89 (by rfl) (fun _ _ => wanted_none rfl _) (all_R (row := ⟨some ⟨b54, 0, none⟩, 1, [m2.re]⟩) rds_row (by simp only [List.mem_singleton, forall_eq]; exact (r2.weak (fun _ h => Pick.sat (by repeat (first | exact Pick.refl | refine Pick.drop ?_)) h)).re) (by simp only [tot, List.map_cons, List.map_nil, List.sum_cons, List.sum_nil]; omega) (by simp)) (fun _ _ => (fun _ h => (by repeat (first | exact Inc.here | refine Inc.there ?_) : Inc _ _) _ h)) rfl (fun q6 => ?_)
      try dsimp only
      refine Wd.act 7 rfl (by kernel_rfl) (Acts.store (vs := [_]) (by rfl) (by rfl) sz_4 (by rfl) (by rfl) (by rfl) (by repeat (first | exact Has.here | apply Has.there)) (by exact Nat.le_of_ble_eq_true rfl) (by simp only [Srf.cells, RSt.cells, List.cons_append, List.nil_append, wrs, List.set_cons_zero, List.set_cons_succ, Nat.reduceAdd, Nat.zero_add, Nat.add_zero]; rfl) (by repeat (first | exact UpdL.cel | apply UpdL.there))) (fun _ => (fun _ h => (by repeat (first | exact Inc.here | refine Inc.there ?_) : Inc _ _) _ h)) ?_
      refine Wd.takeP 8 rfl (by kernel_rfl) (by kernel_rfl) (by kernel_rfl) (fun _ _ _ _ h => h) (Runs.field (by rfl) fa_37_5) rfl ?_
      refine Wd.act 9 rfl (by kernel_rfl) (Acts.store (vs := [_]) (by rfl) (by rfl) sz_4 (by rfl) (by rfl) (by rfl) (by repeat (first | exact Has.here | apply Has.there)) (by exact Nat.le_of_ble_eq_true rfl) (by simp only [Srf.cells, RSt.cells, List.cons_append, List.nil_append, wrs, List.set_cons_zero, List.set_cons_succ, Nat.reduceAdd, Nat.zero_add, Nat.add_zero]; rfl) (by repeat (first | exact UpdL.cel | apply UpdL.there))) (fun _ => (fun _ h => (by repeat (first | exact Inc.here | refine Inc.there ?_) : Inc _ _) _ h)) ?_
      refine Wd.takeP 10 rfl (by kernel_rfl) (by kernel_rfl) (by kernel_rfl) (fun _ _ _ _ h => h) (Runs.field (by rfl) fa_37_6) rfl ?_
      refine Wd.act 11 rfl (by kernel_rfl) (Acts.store (vs := [_]) (by rfl) (by rfl) sz_34 (by rfl) (by rfl) (by rfl) (by repeat (first | exact Has.here | apply Has.there)) (by exact Nat.le_of_ble_eq_true rfl) (by simp only [Srf.cells, RSt.cells, List.cons_append, List.nil_append, wrs, List.set_cons_zero, List.set_cons_succ, Nat.reduceAdd, Nat.zero_add, Nat.add_zero]; rfl) (by repeat (first | exact UpdL.cel | apply UpdL.there))) (fun h => (nomatch h)) ?_
      refine Wd.done (by kernel_rfl) ?_
      refine At.env [(3, _), (4, _), (5, _)] ⟨by rfl, by rfl, by rfl, trivial⟩ ?_
      refine At.then_ ?_
      refine Wc.seq ?_
      refine Wc.seq ?_
      -- R6
      refine Wc.region ?_
      refine Wl.val (Runs.field (by rfl) fa_37_7) rfl ?_
      refine Wl.val (Runs.load1 (by rfl) fl_4 (by repeat (first | exact Has.here | apply Has.there)) (by rfl)) rfl ?_
      refine Wl.nil ?_
      refine At.env [(3, _), (4, _), (5, _), (60, _)] ⟨by rfl, by rfl, by rfl, by rfl, trivial⟩ ?_
      refine At.then_ ?_
      -- if 5
      first | refine Wc.ifd (by rfl) (fun h6 => ?_) (fun h6 => ?_) | refine Wc.ifb (by rfl) (fun h6 => ?_) (fun h6 => ?_)
      · skip
        -- R7
        refine Wc.region ?_
        refine Wl.val (Runs.field (by rfl) fa_37_8) rfl ?_
        refine Wl.val (Runs.load1 (by rfl) fl_29 (by repeat (first | exact Has.here | apply Has.there)) (by rfl)) rfl ?_
        refine Wl.valX (RunsX.buildSlice (U := 29) (cs := ([m2.ol].map Sli.v)) (by rfl) (fun _ => by kernel_rfl)) rfl (fun b63 => ?_)
        try dsimp only
        refine Wl.call en_90 (by rfl) (all_I (row := ⟨some ⟨b63, 0, none⟩, 1, [m2.ol]⟩) rds_row (by simp only [List.mem_singleton, forall_eq]; exact (r2.weak (fun _ h => Pick.sat (by repeat (first | exact Pick.refl | refine Pick.drop ?_)) h)).ol) (by simp only [tot, List.map_cons, List.map_nil, List.sum_cons, List.sum_nil]; omega) (by simp)) rfl (fun q7 => ?_)
        try dsimp only
        refine Wl.val (Runs.field (by rfl) fa_37_7) rfl ?_
        refine Wl.act (Acts.store (vs := [_]) (by rfl) (by rfl) sz_4 (by rfl) (by rfl) (by rfl) (by repeat (first | exact Has.here | apply Has.there)) (by exact Nat.le_of_ble_eq_true rfl) (by simp only [Srf.cells, RSt.cells, List.cons_append, List.nil_append, wrs, List.set_cons_zero, List.set_cons_succ, Nat.reduceAdd, Nat.zero_add, Nat.add_zero]; rfl) (by repeat (first | exact UpdL.cel | apply UpdL.there))) ?_
        refine Wl.val (Runs.field (by rfl) fa_37_8) rfl ?_
        refine Wl.act (Acts.store (vs := [_]) (by rfl) (by rfl) sz_29 (by rfl) (by rfl) (by rfl) (by repeat (first | exact Has.here | apply Has.there)) (by exact Nat.le_of_ble_eq_true rfl) (by simp only [Srf.cells, RSt.cells, List.cons_append, List.nil_append, wrs, List.set_cons_zero, List.set_cons_succ, Nat.reduceAdd, Nat.zero_add, Nat.add_zero]; rfl) (by repeat (first | exact UpdL.cel | apply UpdL.there))) ?_
        refine Wl.nil ?_
        refine At.env [(4, _), (5, _)] ⟨by rfl, by rfl, trivial⟩ ?_
        refine At.then_ ?_
        refine Wc.seq ?_
        -- R8
        refine Wc.region ?_
        refine Wl.val (Runs.loadN (vs := [_, _, _, _, _, _, _, _, _, _]) (by rfl) ag_37 (by repeat (first | exact Has.here | apply Has.there)) (by rfl) (by rfl)) rfl ?_
        refine Wl.act (Acts.store (vs := [_, _, _, _, _, _, _, _, _, _]) (by rfl) (by rfl) sz_37 (by rfl) (by rfl) (by rfl) (by repeat (first | exact Has.here | apply Has.there)) (by exact Nat.le_of_ble_eq_true rfl) (by simp only [Srf.cells, RSt.cells, List.cons_append, List.nil_append, wrs, List.set_cons_zero, List.set_cons_succ, Nat.reduceAdd, Nat.zero_add, Nat.add_zero]; rfl) (by repeat (first | exact UpdL.cel | apply UpdL.there))) ?_
        refine Wl.nil ?_
        refine At.env [(4, _)] ⟨by rfl, trivial⟩ ?_
        refine At.then_ ?_
        refine Wc.ret ?_
        repeat (first | refine At.thenRet ?_ | refine At.blockRet ?_)
        -- ret 4
        exact At.retN (⟨⟨m1.at_, m1.bu, q1, q2, true, m2.all, q6.1, true, q7.1, q5⟩, by simp [RSt.abs, PSt.merge, hq1, hq2, hq3, hq4, hq5, ‹m2.at_ = false›, ‹m2.inp = true›, ‹m2.ord = true›, q6.2, cat, q7.2, cat]⟩) rfl (by rfl) ag_37 (by repeat (first | exact Has.here | apply Has.there)) (vs := [_, _, _, _, _, _, _, _, _, _]) (by rfl) (by rfl) (by rfl) (fun _ h => Pick.sat (by refine Pick.cons (by repeat (first | exact Rem.here | apply Rem.there)) ?_; refine Pick.cons (by repeat (first | exact Rem.here | apply Rem.there)) ?_; refine Pick.cons (by repeat (first | exact Rem.here | apply Rem.there)) ?_; refine Pick.cons (by repeat (first | exact Rem.here | apply Rem.there)) ?_; refine Pick.cons (by repeat (first | exact Rem.here | apply Rem.there)) ?_; repeat (first | exact Pick.refl | refine Pick.drop ?_)) h)
      · skip
        refine Wc.skip ?_
        refine At.then_ ?_
        refine Wc.seq ?_
        -- R8
        refine Wc.region ?_
        refine Wl.val (Runs.loadN (vs := [_, _, _, _, _, _, _, _, _, _]) (by rfl) ag_37 (by repeat (first | exact Has.here | apply Has.there)) (by rfl) (by rfl)) rfl ?_
        refine Wl.act (Acts.store (vs := [_, _, _, _, _, _, _, _, _, _]) (by rfl) (by rfl) sz_37 (by rfl) (by rfl) (by rfl) (by repeat (first | exact Has.here | apply Has.there)) (by exact Nat.le_of_ble_eq_true rfl) (by simp only [Srf.cells, RSt.cells, List.cons_append, List.nil_append, wrs, List.set_cons_zero, List.set_cons_succ, Nat.reduceAdd, Nat.zero_add, Nat.add_zero]; rfl) (by repeat (first | exact UpdL.cel | apply UpdL.there))) ?_
        refine Wl.nil ?_
        refine At.env [(4, _)] ⟨by rfl, trivial⟩ ?_
        refine At.then_ ?_
        refine Wc.ret ?_
        repeat (first | refine At.thenRet ?_ | refine At.blockRet ?_)
        -- ret 5
        exact At.retN (⟨⟨m1.at_, m1.bu, q1, q2, true, m2.all, q6.1, m1.ord, q4, q5⟩, by simp [RSt.abs, PSt.merge, hq1, hq2, hq3, hq4, hq5, ‹m2.at_ = false›, ‹m2.inp = true›, ‹m2.ord = false›, q6.2, cat]⟩) rfl (by rfl) ag_37 (by repeat (first | exact Has.here | apply Has.there)) (vs := [_, _, _, _, _, _, _, _, _, _]) (by rfl) (by rfl) (by rfl) (fun _ h => Pick.sat (by refine Pick.cons (by repeat (first | exact Rem.here | apply Rem.there)) ?_; refine Pick.cons (by repeat (first | exact Rem.here | apply Rem.there)) ?_; refine Pick.cons (by repeat (first | exact Rem.here | apply Rem.there)) ?_; refine Pick.cons (by repeat (first | exact Rem.here | apply Rem.there)) ?_; refine Pick.cons (by repeat (first | exact Rem.here | apply Rem.there)) ?_; repeat (first | exact Pick.refl | refine Pick.drop ?_)) h)
    · skip
      refine Wc.skip ?_
      refine At.then_ ?_
      refine Wc.seq ?_
      refine Wc.seq ?_
      -- R6
      refine Wc.region ?_
      refine Wl.val (Runs.field (by rfl) fa_37_7) rfl ?_
      refine Wl.val (Runs.load1 (by rfl) fl_4 (by repeat (first | exact Has.here | apply Has.there)) (by rfl)) rfl ?_
      refine Wl.nil ?_
      refine At.env [(3, _), (4, _), (5, _), (60, _)] ⟨by rfl, by rfl, by rfl, by rfl, trivial⟩ ?_
      refine At.then_ ?_
      -- if 6
      first | refine Wc.ifd (by rfl) (fun h7 => ?_) (fun h7 => ?_) | refine Wc.ifb (by rfl) (fun h7 => ?_) (fun h7 => ?_)
      · skip
        -- R7
        refine Wc.region ?_
        refine Wl.val (Runs.field (by rfl) fa_37_8) rfl ?_
        refine Wl.val (Runs.load1 (by rfl) fl_29 (by repeat (first | exact Has.here | apply Has.there)) (by rfl)) rfl ?_
        refine Wl.valX (RunsX.buildSlice (U := 29) (cs := ([m2.ol].map Sli.v)) (by rfl) (fun _ => by kernel_rfl)) rfl (fun b63 => ?_)
        try dsimp only
        refine Wl.call en_90 (by rfl) (all_I (row := ⟨some ⟨b63, 0, none⟩, 1, [m2.ol]⟩) rds_row (by simp only [List.mem_singleton, forall_eq]; exact (r2.weak (fun _ h => Pick.sat (by repeat (first | exact Pick.refl | refine Pick.drop ?_)) h)).ol) (by simp only [tot, List.map_cons, List.map_nil, List.sum_cons, List.sum_nil]; omega) (by simp)) rfl (fun q7 => ?_)
        try dsimp only
        refine Wl.val (Runs.field (by rfl) fa_37_7) rfl ?_
        refine Wl.act (Acts.store (vs := [_]) (by rfl) (by rfl) sz_4 (by rfl) (by rfl) (by rfl) (by repeat (first | exact Has.here | apply Has.there)) (by exact Nat.le_of_ble_eq_true rfl) (by simp only [Srf.cells, RSt.cells, List.cons_append, List.nil_append, wrs, List.set_cons_zero, List.set_cons_succ, Nat.reduceAdd, Nat.zero_add, Nat.add_zero]; rfl) (by repeat (first | exact UpdL.cel | apply UpdL.there))) ?_
        refine Wl.val (Runs.field (by rfl) fa_37_8) rfl ?_
        refine Wl.act (Acts.store (vs := [_]) (by rfl) (by rfl) sz_29 (by rfl) (by rfl) (by rfl) (by repeat (first | exact Has.here | apply Has.there)) (by exact Nat.le_of_ble_eq_true rfl) (by simp only [Srf.cells, RSt.cells, List.cons_append, List.nil_append, wrs, List.set_cons_zero, List.set_cons_succ, Nat.reduceAdd, Nat.zero_add, Nat.add_zero]; rfl) (by repeat (first | exact UpdL.cel | apply UpdL.there))) ?_
        refine Wl.nil ?_
        refine At.env [(4, _), (5, _)] ⟨by rfl, by rfl, trivial⟩ ?_
        refine At.then_ ?_
        refine Wc.seq ?_
        -- R8
        refine Wc.region ?_
        refine Wl.val (Runs.loadN (vs := [_, _, _, _, _, _, _, _, _, _]) (by rfl) ag_37 (by repeat (first | exact Has.here | apply Has.there)) (by rfl) (by rfl)) rfl ?_
        refine Wl.act (Acts.store (vs := [_, _, _, _, _, _, _, _, _, _]) (by rfl) (by rfl) sz_37 (by rfl) (by rfl) (by rfl) (by repeat (first | exact Has.here | apply Has.there)) (by exact Nat.le_of_ble_eq_true rfl) (by simp only [Srf.cells, RSt.cells, List.cons_append, List.nil_append, wrs, List.set_cons_zero, List.set_cons_succ, Nat.reduceAdd, Nat.zero_add, Nat.add_zero]; rfl) (by repeat (first | exact UpdL.cel | apply UpdL.there))) ?_
        refine Wl.nil ?_
        refine At.env [(4, _)] ⟨by rfl, trivial⟩ ?_
        refine At.then_ ?_
        refine Wc.ret ?_
        repeat (first | refine At.thenRet ?_ | refine At.blockRet ?_)
        -- ret 6
        exact At.retN (⟨⟨m1.at_, m1.bu, q1, q2, m1.inp, m1.all, q3, true, q7.1, q5⟩, by simp [RSt.abs, PSt.merge, hq1, hq2, hq3, hq4, hq5, ‹m2.at_ = false›, ‹m2.inp = false›, ‹m2.ord = true›, q7.2, cat]⟩) rfl (by rfl) ag_37 (by repeat (first | exact Has.here | apply Has.there)) (vs := [_, _, _, _, _, _, _, _, _, _]) (by rfl) (by rfl) (by rfl) (fun _ h => Pick.sat (by refine Pick.cons (by repeat (first | exact Rem.here | apply Rem.there)) ?_; refine Pick.cons (by repeat (first | exact Rem.here | apply Rem.there)) ?_; refine Pick.cons (by repeat (first | exact Rem.here | apply Rem.there)) ?_; refine Pick.cons (by repeat (first | exact Rem.here | apply Rem.there)) ?_; refine Pick.cons (by repeat (first | exact Rem.here | apply Rem.there)) ?_; repeat (first | exact Pick.refl | refine Pick.drop ?_)) h)
      · skip
        refine Wc.skip ?_
        refine At.then_ ?_
        refine Wc.seq ?_
        -- R8
        refine Wc.region ?_
        refine Wl.val (Runs.loadN (vs := [_, _, _, _, _, _, _, _, _, _]) (by rfl) ag_37 (by repeat (first | exact Has.here | apply Has.there)) (by rfl) (by rfl)) rfl ?_
        refine Wl.act (Acts.store (vs := [_, _, _, _, _, _, _, _, _, _]) (by rfl) (by rfl) sz_37 (by rfl) (by rfl) (by rfl) (by repeat (first | exact Has.here | apply Has.there)) (by exact Nat.le_of_ble_eq_true rfl) (by simp only [Srf.cells, RSt.cells, List.cons_append, List.nil_append, wrs, List.set_cons_zero, List.set_cons_succ, Nat.reduceAdd, Nat.zero_add, Nat.add_zero]; rfl) (by repeat (first | exact UpdL.cel | apply UpdL.there))) ?_
        refine Wl.nil ?_
        refine At.env [(4, _)] ⟨by rfl, trivial⟩ ?_
        refine At.then_ ?_
        refine Wc.ret ?_
        repeat (first | refine At.thenRet ?_ | refine At.blockRet ?_)
        -- ret 7
        exact At.retN (⟨⟨m1.at_, m1.bu, q1, q2, m1.inp, m1.all, q3, m1.ord, q4, q5⟩, by simp [RSt.abs, PSt.merge, hq1, hq2, hq3, hq4, hq5, ‹m2.at_ = false›, ‹m2.inp = false›, ‹m2.ord = false›]⟩) rfl (by rfl) ag_37 (by repeat (first | exact Has.here | apply Has.there)) (vs := [_, _, _, _, _, _, _, _, _, _]) (by rfl) (by rfl) (by rfl) (fun _ h => Pick.sat (by refine Pick.cons (by repeat (first | exact Rem.here | apply Rem.there)) ?_; refine Pick.cons (by repeat (first | exact Rem.here | apply Rem.there)) ?_; refine Pick.cons (by repeat (first | exact Rem.here | apply Rem.there)) ?_; refine Pick.cons (by repeat (first | exact Rem.here | apply Rem.there)) ?_; refine Pick.cons (by repeat (first | exact Rem.here | apply Rem.there)) ?_; repeat (first | exact Pick.refl | refine Pick.drop ?_)) h)
end Go.Proofs.Sl

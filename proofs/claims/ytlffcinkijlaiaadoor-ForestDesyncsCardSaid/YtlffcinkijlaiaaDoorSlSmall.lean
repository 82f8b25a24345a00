/- Small forests: their order and their bounds are seen by computing. -/
import Derived.Test.YtlffcinkijlaiaaDoorSlCommit
namespace Go.Proofs.Sl
def tn (k : Int) : Nat := k.toNat
def trB (N : Nat) (A : List Sur) : Bool :=
  A.all fun p => decide (0 < p.id) && Nat.blt p.id.toNat N && (!decide (0 < p.parent) || Nat.blt p.parent.toNat p.id.toNat) &&
    (p.pe.ol ++ p.ca.ol ++ p.cu.ol).all fun id => decide (id = 0) || A.all fun s => !decide (s.id = id) || decide (s.parent = p.id)
theorem trB.ok {N : Nat} {A : List Sur} (h : trB N A = true) : Tr tn N A := by
  have h1 : ∀ p ∈ A, 0 < p.id ∧ tn p.id < N ∧ (0 < p.parent → tn p.parent < tn p.id) ∧ ∀ id ∈ p.pe.ol ++ p.ca.ol ++ p.cu.ol, id ≠ 0 → ∀ s ∈ A, s.id = id → s.parent = p.id := by
    intro p hp
    have h2 := List.all_eq_true.1 h p hp
    simp only [Bool.and_eq_true, decide_eq_true_eq, Bool.or_eq_true, Bool.not_eq_true', decide_eq_false_iff_not, List.all_eq_true] at h2
    obtain ⟨⟨⟨a, b⟩, c⟩, d⟩ := h2
    rw [Nat.blt_eq] at b
    refine ⟨a, b, fun hpos => by rcases c with c | c; exact absurd hpos c; rw [Nat.blt_eq] at c; exact c, fun id hid h0 s hs he => ?_⟩
    rcases d id hid with d | d
    · exact absurd d h0
    · rcases d s hs with d | d
      · exact absurd he d
      · exact d
  refine ⟨fun k s hk hpos => ?_, fun k s hk => ?_, fun k s hk => ?_, fun k p hk id hid h0 s hs => ?_⟩
  · have := (h1 s (get_mem hk)).2.2.1 hpos; rwa [get_id hk] at this
  · have := (h1 s (get_mem hk)).2.1; rwa [get_id hk] at this
  · have := (h1 s (get_mem hk)).1; rwa [get_id hk] at this
  · rw [(h1 p (get_mem hk)).2.2.2 id (by simp only [List.mem_append]; rcases hid with h | h | h; exact .inl (.inl h); exact .inl (.inr h); exact .inr h) h0 s (get_mem hs) (get_id hs), get_id hk]
def limS (n : Nat) (s : PSt) : Bool := Nat.ble s.ol.length (n + 1) && Nat.ble s.re.length (n + 20)
def limB (n : Nat) (A : List Sur) : Bool := Nat.ble (wt A) n && A.all fun s => limS n s.pe && limS n s.ca && limS n s.cu
theorem limB.ok {n : Nat} {A : List Sur} (h : limB n A = true) : Lim n A := by
  simp only [limB, Bool.and_eq_true, List.all_eq_true, limS, Nat.ble_eq] at h
  exact ⟨h.1, fun s hs => ⟨⟨(h.2 s hs).1.1.1, (h.2 s hs).1.1.2⟩, ⟨(h.2 s hs).1.2.1, (h.2 s hs).1.2.2⟩, (h.2 s hs).2.1, (h.2 s hs).2.2⟩⟩
/-! ### A forest of two -/
def S1 (pe cu : PSt) : Sur := ⟨1, 0, false, pe, PSt.zero, cu⟩
def pe1 : PSt := { PSt.zero with ord := true, ol := [0, 2], pl := [⟨2, 0, 0⟩] }
def cu1 : PSt := { PSt.first with ol := [0, 2], pl := [⟨2, 0, 0⟩] }
def G1 : List Sur := [⟨1, 0, false, PSt.zero, PSt.zero, PSt.first⟩]
def G2 : List Sur := [⟨1, 0, false, PSt.zero, PSt.zero, PSt.first⟩, ⟨2, 0, false, PSt.zero, PSt.zero, PSt.first⟩]
def G3 : List Sur := [S1 pe1 PSt.first, ⟨2, 1, true, PSt.zero, PSt.zero, PSt.first⟩]
theorem G1_add : pAdd [] 1 = (none, G1) := by rfl
theorem G2_add : pAdd G1 2 = (none, G2) := by rfl
theorem G3_sub : pSub G2 tn 2 1 = (none, G3) := by rfl
theorem G2_tr : Tr tn 3 G2 := trB.ok (by rfl)
theorem G2_lim : Lim 100 G2 := limB.ok (by rfl)
theorem G3_tr : Tr tn 3 G3 := trB.ok (by rfl)
theorem G3_lim : Lim 100 G3 := limB.ok (by rfl)
/-! awake -/
def fr9 : PSt := { PSt.zero with fr := [9] }
def W4 : List Sur := [S1 pe1 PSt.first, ⟨2, 1, true, fr9, PSt.zero, PSt.first⟩]
def W5 : List Sur := [S1 pe1 PSt.first, ⟨2, 1, true, PSt.zero, fr9, PSt.first⟩]
theorem W4_frame : pTurn G3 2 (fun s => { s with fr := s.fr ++ [9] }) = (none, W4) := by rfl
theorem W4_tr : Tr tn 3 W4 := trB.ok (by rfl)
theorem W4_lim : Lim 100 W4 := limB.ok (by rfl)
theorem W5_tr : Tr tn 3 W5 := trB.ok (by rfl)
theorem W5_lim : Lim 100 W5 := limB.ok (by rfl)
theorem W5_commit : pCommit W4 tn 3 2 = ⟨none, [], W5⟩ := by rfl
theorem W6_commit : (pCommit W5 tn 3 1).er = none ∧ (pCommit W5 tn 3 1).l = [1, 2] := ⟨by rfl, by rfl⟩
/-! ForestDesyncs -/
def ca2 (t : Bool) (v : Int) : PSt := ⟨t, v, [], [], false, false, [], false, [], []⟩
def cu2 (v : Int) : PSt := ⟨false, v, [], [], false, true, [], false, [0], []⟩
def D (sy : Bool) (now : Int) (t : Bool) (cached : Int) : List Sur := [S1 PSt.zero cu1, ⟨2, 1, sy, PSt.zero, ca2 t cached, cu2 now⟩]
theorem D_commit : pCommit G3 tn 3 1 = ⟨none, [1], D true 0 false 0⟩ := by rfl
theorem D_sync (sy : Bool) (now : Int) (t : Bool) (cached : Int) (on : Bool) : pSync (D sy now t cached) 2 on = (none, D on now t cached) := by rfl
def DA (sy : Bool) (now : Int) (t : Bool) (cached v : Int) : List Sur := [S1 PSt.zero cu1, ⟨2, 1, sy, ca2 true v, ca2 t cached, cu2 now⟩]
theorem D_attach (sy : Bool) (now : Int) (t : Bool) (cached v : Int) : pTurn (D sy now t cached) 2 (fun s => { s with at_ := true, bu := v }) = (none, DA sy now t cached v) := by rfl
theorem DA_tr (sy : Bool) (now : Int) (t : Bool) (cached v : Int) : Tr tn 3 (DA sy now t cached v) := trB.ok (by rfl)
theorem DA_lim (sy : Bool) (now : Int) (t : Bool) (cached v : Int) : Lim 100 (DA sy now t cached v) := limB.ok (by rfl)
theorem D_tr (sy : Bool) (now : Int) (t : Bool) (cached : Int) : Tr tn 3 (D sy now t cached) := trB.ok (by rfl)
theorem D_lim (sy : Bool) (now : Int) (t : Bool) (cached : Int) : Lim 100 (D sy now t cached) := limB.ok (by rfl)
theorem DA_on (now : Int) (t : Bool) (cached v : Int) : pCommit (DA true now t cached v) tn 3 2 = ⟨none, [], D true now true v⟩ := by cases t <;> rfl
theorem DA_off (now : Int) (t : Bool) (cached v : Int) : pCommit (DA false now t cached v) tn 3 2 = ⟨none, [2], D false v false 0⟩ := by cases t <;> rfl
theorem D_cur (sy : Bool) (now : Int) (t : Bool) (cached : Int) : pCur (D sy now t cached) 2 = cu2 now := by rfl
theorem D_ca (sy : Bool) (now : Int) (t : Bool) (cached : Int) : pCa (D sy now t cached) 2 = ca2 t cached := by rfl
end Go.Proofs.Sl

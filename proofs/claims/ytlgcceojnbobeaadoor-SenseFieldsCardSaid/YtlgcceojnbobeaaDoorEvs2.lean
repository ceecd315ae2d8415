/- What sense.many answers. -/
import Derived.Test.YtlgcceojnbobeaaDoorEvs
namespace Go.Proofs.YtlgcceojnbobeaaDoor.A
open Go.RowKit Go.Shelf Go.Proofs.YtlgcceojnbobeaaDoorW.PrintWords Go.Proofs.YtlgcceojnbobeaaDoorW.PrintLast Go.Proofs.YtlgcceojnbobeaaDoorW.PrintMore
set_option linter.unusedVariables false
set_option linter.unusedSimpArgs false

theorem len_nodes (l : List S24) : l.length ≤ nodesL l := by
  induction l with
  | nil => simp [nodesL]
  | cons x l ih => simp only [List.length_cons, nodesL]; have := nodes_pos x; omega
def cap (c : Nat) : Int := ((min c 4097 : Nat) : Int)
theorem cap_le (c : Nat) : decide (cap c ≤ 4096) = decide (c ≤ 4096) := by unfold cap; rw [decide_eq_decide]; omega
theorem cap_mul (c d : Nat) : mn (wrap64 (cap c * cap d)) 4097 = cap (c * d) := by
  unfold cap
  have h1 : min c 4097 * min d 4097 ≤ 4097 * 4097 := Nat.mul_le_mul (Nat.min_le_right _ _) (Nat.min_le_right _ _)
  rw [← Int.natCast_mul, w64 _ (by omega)]
  unfold mn
  have h2 : min c 4097 * min d 4097 ≤ c * d := Nat.mul_le_mul (Nat.min_le_left _ _) (Nat.min_le_left _ _)
  by_cases hc : c ≤ 4097
  · by_cases hd : d ≤ 4097
    · rw [Nat.min_eq_left hc, Nat.min_eq_left hd]; split <;> omega
    · rw [Nat.min_eq_left hc, Nat.min_eq_right (by omega)] at *
      by_cases h0 : c = 0
      · subst h0; simp
      · have h3 : 1 * 4097 ≤ c * 4097 := Nat.mul_le_mul_right _ (by omega)
        split <;> omega
  · rw [Nat.min_eq_right (show 4097 ≤ c by omega)] at *
    by_cases h0 : d = 0
    · subst h0; simp
    · have h3 : 4097 * 1 ≤ 4097 * min d 4097 := Nat.mul_le_mul_left _ (by omega)
      split <;> omega
theorem cap_add (c d : Nat) : mn (wrap64 (cap c + cap d)) 4097 = cap (c + d) := by
  unfold cap
  rw [w64 _ (by omega)]
  unfold mn
  split <;> omega
def ManyIs (x : S24) : Prop := Ev (fun k => sense_many.f k x.f0 x.f1 x.f2 x.f3 x.f4 x.f5) (cap (casesP x).length, okP x)
theorem many_end (c : Nat) (ok : Bool) (K p n : Int) (f t : ByteArray) (l : List S24) (i : Nat) (h : l.length ≤ i) : Ev (fun q => sense_many.l0 q (cap c) ok l (l.length : Int) (i : Int) K p f t n l) (cap c, ok && decide (c ≤ 4096)) := by
  refine Ev.step (f := fun _ => some (cap c, ok && decide (c ≤ 4096))) (fun q => ?_) (Ev.now _)
  simp only [sense_many.l0]
  rw [if_neg (by omega), cap_le]
  cases ok <;> rfl
theorem many_all (l : List S24) (hl : l.length ≤ 30) (p n : Int) (f t : ByteArray) (ih : ∀ y ∈ l, ManyIs y) : ∀ (suf : List S24) (i c : Nat) (ok : Bool), l.drop i = suf →
    Ev (fun q => sense_many.l0 q (cap c) ok l (l.length : Int) (i : Int) 0 p f t n l) (cap (c * (allP suf [[]]).length), (ok && okL suf) && decide (c * (allP suf [[]]).length ≤ 4096)) := by
  intro suf
  induction suf with
  | nil =>
    intro i c ok h
    have := many_end c ok 0 p n f t l i (drop_nil h)
    have e1 : c * (allP ([] : List S24) [[]]).length = c := by simp [allP, anyP]
    rw [e1]
    simp only [okL, Bool.and_true]
    exact this
  | cons y suf ihs =>
    intro i c ok h
    obtain ⟨hi, hy, hd, hm⟩ := drop_cons h
    have h1 := ih y hm
    have e3 : wrap64 ((i : Int) + 1) = ((i + 1 : Nat) : Int) := by rw [w64 _ (by omega)]; omega
    have h2 := ihs (i + 1) (c * (casesP y).length) (ok && okP y) hd
    have e4 : c * (allP (y :: suf) [[]]).length = c * (casesP y).length * (allP suf [[]]).length := by simp only [allP]; rw [allP_count suf (cross [[]] (casesP y)), cross_length]; simp [Nat.mul_assoc]
    have e5 : (ok && okL (y :: suf)) = (ok && okP y && okL suf) := by simp only [okL, Bool.and_assoc]
    rw [e4, e5]
    refine Ev.step (f := fun q => (sense_many.f q y.f0 y.f1 y.f2 y.f3 y.f4 y.f5).bind fun bt => sense_many.l0 q (mn (wrap64 (cap c * bt.1)) 4097) (ok && bt.2) l (l.length : Int) ((i + 1 : Nat) : Int) 0 p f t n l) (fun q => ?_) (Ev.bind h1 (by simp only [cap_mul]; exact h2))
    simp only [sense_many.l0]
    rw [if_pos (by omega), if_pos (by omega), if_pos (by omega), hy, e3]
    congr 1
    funext bt
    cases ok
    · rw [if_neg (by decide), if_pos trivial]; rfl
    · rw [if_pos rfl, if_pos trivial]; rfl
theorem many_any (l : List S24) (hl : l.length ≤ 30) (p n : Int) (f t : ByteArray) (ih : ∀ y ∈ l, ManyIs y) : ∀ (suf : List S24) (i c : Nat) (ok : Bool), l.drop i = suf →
    Ev (fun q => sense_many.l0 q (cap c) ok l (l.length : Int) (i : Int) 1 p f t n l) (cap (c + (anyP suf).length), (ok && okL suf) && decide (c + (anyP suf).length ≤ 4096)) := by
  intro suf
  induction suf with
  | nil =>
    intro i c ok h
    have := many_end c ok 1 p n f t l i (drop_nil h)
    have e1 : c + (anyP ([] : List S24)).length = c := by simp [allP, anyP]
    rw [e1]
    simp only [okL, Bool.and_true]
    exact this
  | cons y suf ihs =>
    intro i c ok h
    obtain ⟨hi, hy, hd, hm⟩ := drop_cons h
    have h1 := ih y hm
    have e3 : wrap64 ((i : Int) + 1) = ((i + 1 : Nat) : Int) := by rw [w64 _ (by omega)]; omega
    have h2 := ihs (i + 1) (c + (casesP y).length) (ok && okP y) hd
    have e4 : c + (anyP (y :: suf)).length = c + (casesP y).length + (anyP suf).length := by simp only [anyP, List.length_append]; omega
    have e5 : (ok && okL (y :: suf)) = (ok && okP y && okL suf) := by simp only [okL, Bool.and_assoc]
    rw [e4, e5]
    refine Ev.step (f := fun q => (sense_many.f q y.f0 y.f1 y.f2 y.f3 y.f4 y.f5).bind fun bt => sense_many.l0 q (mn (wrap64 (cap c + bt.1)) 4097) (ok && bt.2) l (l.length : Int) ((i + 1 : Nat) : Int) 1 p f t n l) (fun q => ?_) (Ev.bind h1 (by simp only [cap_add]; exact h2))
    simp only [sense_many.l0]
    rw [if_pos (by omega), if_pos (by omega), if_pos (by omega), hy, e3]
    congr 1
    funext bt
    cases ok
    · rw [if_neg (by decide), if_neg (show ¬ (1 : Int) = 0 by decide)]; rfl
    · rw [if_pos rfl, if_neg (show ¬ (1 : Int) = 0 by decide)]; rfl
theorem many_ev (N : Nat) (hN : N ≤ 30) : ∀ x : S24, nodes x ≤ N → ManyIs x := by
  induction N with
  | zero => intro x h; have := nodes_pos x; omega
  | succ N ih =>
    intro x h
    have hn := nodes_eq x
    have hl := len_nodes x.f5
    have hI : ∀ y ∈ x.f5, ManyIs y := fun y hy => ih (by omega) y (by have := nodesL_mem hy; omega)
    obtain ⟨k, p, f, t, n, l⟩ := x
    unfold ManyIs
    simp only at hI hl hn ⊢
    by_cases h0 : k = 0
    · subst h0
      have h1 := many_all l (by omega) p n f t hI l 0 1 true rfl
      have e1 : okP ⟨0, p, f, t, n, l⟩ = ((true && okL l) && decide (1 * (allP l [[]]).length ≤ 4096)) := by simp [okP, casesP]
      have e2 : (casesP ⟨0, p, f, t, n, l⟩).length = 1 * (allP l [[]]).length := by simp [casesP]
      rw [e1, e2]
      refine Ev.step (f := fun q => sense_many.j0 q false 0 p f t n l) (fun q => ?_) (Ev.step (fun q => ?_) h1)
      · simp only [sense_many.f]; rw [if_pos trivial]
      · simp only [sense_many.j0]; rw [if_neg (by decide), show wrap64 (1 - 0) = cap 1 from by rw [w64 _ (by omega)]; rfl]; rfl
    · by_cases h1' : k = 1
      · subst h1'
        have h1 := many_any l (by omega) p n f t hI l 0 0 true rfl
        have e1 : okP ⟨1, p, f, t, n, l⟩ = ((true && okL l) && decide (0 + (anyP l).length ≤ 4096)) := by simp [okP, casesP]
        have e2 : (casesP ⟨1, p, f, t, n, l⟩).length = 0 + (anyP l).length := by simp [casesP]
        rw [e1, e2]
        refine Ev.step (f := fun q => sense_many.j0 q false 1 p f t n l) (fun q => ?_) (Ev.step (fun q => ?_) h1)
        · simp only [sense_many.f]; rw [if_neg (by decide)]; rfl
        · simp only [sense_many.j0]; rw [if_neg (by decide), show wrap64 (1 - 1) = cap 0 from by rw [w64 _ (by omega)]; rfl]; rfl
      · have e1 : okP ⟨k, p, f, t, n, l⟩ = true := by simp [okP, h0, h1']
        have e2 : (casesP ⟨k, p, f, t, n, l⟩).length = 1 := by
          simp only [casesP, if_neg h1', if_neg h0]
          split <;> rfl
        rw [e1, e2]
        refine Ev.step (f := fun q => sense_many.j0 q true k p f t n l) (fun q => ?_) (Ev.step (f := fun _ => some (cap 1, true)) (fun q => ?_) (Ev.now _))
        · simp only [sense_many.f]
          rw [if_neg h0]
          have : (k != 1) = true := by simpa using h1'
          rw [this]
        · simp only [sense_many.j0]; rfl
/-! ### turned -/
def TurnIs (x : S24) : Prop := Ev (fun k => supercargolaw29_turned.f k x.f0 x.f1 x.f2 x.f3 x.f4 x.f5) (x.f0, x.f1, x.f2, x.f3, x.f4, turnL x.f5)
theorem turn_eq (x : S24) : turnP x = ⟨x.f0, x.f1, x.f2, x.f3, x.f4, turnL x.f5⟩ := by cases x; simp only [turnP]
theorem turnL_len (l : List S24) : (turnL l).length = l.length := by
  induction l with
  | nil => simp [turnL]
  | cons x l ih => simp [turnL, ih]
theorem turn_loop (l : List S24) (hl : l.length ≤ 30) (K p n : Int) (f t : ByteArray) (ih : ∀ y ∈ l, TurnIs y) : ∀ (m i : Nat), m + i = l.length →
    Ev (fun q => supercargolaw29_turned.l0 q (turnL (l.drop m)) (l.length : Int) (i : Int) K p f t n l) (K, p, f, t, n, turnL l) := by
  intro m
  induction m with
  | zero =>
    intro i h
    refine Ev.step (f := fun _ => some (K, p, f, t, n, turnL l)) (fun q => ?_) (Ev.now _)
    simp only [supercargolaw29_turned.l0]
    rw [if_neg (by omega)]
    rfl
  | succ m ihm =>
    intro i h
    have hm : m < l.length := by omega
    have e1 : wrap64 ((l.length : Int) - 1) = (l.length : Int) - 1 := w64 _ (by omega)
    have e2 : wrap64 ((l.length : Int) - 1 - (i : Int)) = (m : Int) := by rw [w64 _ (by omega)]; omega
    have e3 : wrap64 ((i : Int) + 1) = ((i + 1 : Nat) : Int) := by rw [w64 _ (by omega)]; omega
    have hy : rd_T24 l (m : Int) = l[m] := by simp [rd_T24, hm]
    have h1 := ih l[m] (List.getElem_mem hm)
    have h2 := ihm (i + 1) (by omega)
    have e4 : turnL (l.drop m) = turnL (l.drop (m + 1)) ++ [⟨l[m].f0, l[m].f1, l[m].f2, l[m].f3, l[m].f4, turnL l[m].f5⟩] := by
      rw [List.drop_eq_getElem_cons hm, turnL, turn_eq]
    rw [e4] at h2
    have e5 : (turnL (l.drop (m + 1))).length < 1759218604441 := by rw [turnL_len, List.length_drop]; omega
    refine Ev.step (f := fun q => (supercargolaw29_turned.f q l[m].f0 l[m].f1 l[m].f2 l[m].f3 l[m].f4 l[m].f5).bind fun bt => supercargolaw29_turned.l0 q (turnL (l.drop (m + 1)) ++ [⟨bt.1, bt.2.1, bt.2.2.1, bt.2.2.2.1, bt.2.2.2.2.1, bt.2.2.2.2.2⟩]) (l.length : Int) ((i + 1 : Nat) : Int) K p f t n l) (fun q => ?_) (Ev.bind h1 h2)
    simp only [supercargolaw29_turned.l0]
    rw [if_pos (by omega), e1, e2, if_pos (by omega), if_pos (by omega), hy, e3]
    congr 1
    funext bt
    rw [if_pos e5]
theorem turn_ev (N : Nat) (hN : N ≤ 30) : ∀ x : S24, nodes x ≤ N → TurnIs x := by
  induction N with
  | zero => intro x h; have := nodes_pos x; omega
  | succ N ih =>
    intro x h
    have hn := nodes_eq x
    have hl := len_nodes x.f5
    have h1 := turn_loop x.f5 (by omega) x.f0 x.f1 x.f4 x.f2 x.f3 (fun y hy => ih (by omega) y (by have := nodesL_mem hy; omega)) x.f5.length 0 (by omega)
    refine Ev.step (fun q => ?_) h1
    simp only [supercargolaw29_turned.f]
    rw [List.drop_length]
    rfl
end Go.Proofs.YtlgcceojnbobeaaDoor.A

/- The turned tree holds in the same ways. -/
import Derived.Test.YtlgcceojnbobeaaDoorCasesP
namespace Go.Proofs.YtlgcceojnbobeaaDoor.A
open Go.RowKit Go.Shelf Go.Proofs.YtlgcceojnbobeaaDoorW.PrintWords Go.Proofs.YtlgcceojnbobeaaDoorW.PrintLast Go.Proofs.YtlgcceojnbobeaaDoorW.PrintMore
set_option linter.unusedVariables false
set_option linter.unusedSimpArgs false

/-- The same sets of atoms. -/
def Half (a b : List (List Core)) : Prop := ∀ r ∈ a, ∃ r' ∈ b, ∀ c, c ∈ r ↔ c ∈ r'
def Same (a b : List (List Core)) : Prop := Half a b ∧ Half b a
theorem Half.refl (a : List (List Core)) : Half a a := fun r h => ⟨r, h, fun _ => Iff.rfl⟩
theorem Half.trans {a b c : List (List Core)} (h : Half a b) (k : Half b c) : Half a c := fun r hr => by
  obtain ⟨r1, h1, e1⟩ := h r hr
  obtain ⟨r2, h2, e2⟩ := k r1 h1
  exact ⟨r2, h2, fun x => (e1 x).trans (e2 x)⟩
theorem Same.refl (a : List (List Core)) : Same a a := ⟨Half.refl a, Half.refl a⟩
theorem Same.symm {a b : List (List Core)} (h : Same a b) : Same b a := ⟨h.2, h.1⟩
theorem Same.trans {a b c : List (List Core)} (h : Same a b) (k : Same b c) : Same a c := ⟨h.1.trans k.1, k.2.trans h.2⟩
theorem of_mem {r : List Core} {a b : List (List Core)} : r ∈ cross a b ↔ ∃ x ∈ a, ∃ y ∈ b, r = x ++ y := by
  constructor
  · exact mem_cross
  · rintro ⟨x, hx, y, hy, rfl⟩
    exact List.mem_flatMap.2 ⟨x, hx, List.mem_map.2 ⟨y, hy, rfl⟩⟩
theorem Half.cross {a a' b b' : List (List Core)} (h : Half a a') (k : Half b b') : Half (cross a b) (cross a' b') := fun r hr => by
  obtain ⟨x, hx, y, hy, rfl⟩ := of_mem.1 hr
  obtain ⟨x1, h1, e1⟩ := h x hx
  obtain ⟨y1, h2, e2⟩ := k y hy
  exact ⟨x1 ++ y1, of_mem.2 ⟨x1, h1, y1, h2, rfl⟩, fun c => by rw [List.mem_append, List.mem_append, e1, e2]⟩
theorem Same.cross {a a' b b' : List (List Core)} (h : Same a a') (k : Same b b') : Same (cross a b) (cross a' b') := ⟨h.1.cross k.1, h.2.cross k.2⟩
theorem half_comm (o xs ys : List (List Core)) : Half (cross (cross o xs) ys) (cross (cross o ys) xs) := fun r hr => by
  obtain ⟨a, ha, y, hy, rfl⟩ := of_mem.1 hr
  obtain ⟨o1, ho, x, hx, rfl⟩ := of_mem.1 ha
  exact ⟨o1 ++ y ++ x, of_mem.2 ⟨o1 ++ y, of_mem.2 ⟨o1, ho, y, hy, rfl⟩, x, hx, rfl⟩, fun c => by simp only [List.mem_append]; constructor <;> rintro ((h | h) | h) <;> simp [h]⟩
theorem same_comm (o xs ys : List (List Core)) : Same (cross (cross o xs) ys) (cross (cross o ys) xs) := ⟨half_comm o xs ys, half_comm o ys xs⟩
theorem Half.append {a a' b b' : List (List Core)} (h : Half a a') (k : Half b b') : Half (a ++ b) (b' ++ a') := fun r hr => by
  rcases List.mem_append.1 hr with hr | hr
  · obtain ⟨r1, h1, e1⟩ := h r hr
    exact ⟨r1, List.mem_append.2 (.inr h1), e1⟩
  · obtain ⟨r1, h1, e1⟩ := k r hr
    exact ⟨r1, List.mem_append.2 (.inl h1), e1⟩
theorem Same.append {a a' b b' : List (List Core)} (h : Same a a') (k : Same b b') : Same (a ++ b) (b' ++ a') := ⟨h.1.append k.1, k.2.append h.2⟩
theorem allP_same (l : List S24) : ∀ {o o' : List (List Core)}, Same o o' → Same (allP l o) (allP l o') := by
  induction l with
  | nil => intro o o' h; simpa [allP] using h
  | cons x l ih => intro o o' h; simp only [allP]; exact ih (h.cross (Same.refl _))
theorem allP_cross (l : List S24) (xs : List (List Core)) : ∀ o, Same (allP l (cross o xs)) (cross (allP l o) xs) := by
  induction l with
  | nil => intro o; simp only [allP]; exact Same.refl _
  | cons y l ih => intro o; simp only [allP]; exact (allP_same l (same_comm o xs (casesP y))).trans (ih _)
theorem allP_count (l : List S24) : ∀ o, (allP l o).length = o.length * (allP l [[]]).length := by
  induction l with
  | nil => intro o; simp [allP]
  | cons x l ih =>
    intro o
    simp only [allP]
    rw [ih, ih (cross [[]] _), cross_length, cross_length]
    simp [Nat.mul_assoc]
mutual
def turnP : S24 → S24
  | ⟨k, p, f, t, n, l⟩ => ⟨k, p, f, t, n, turnL l⟩
def turnL : List S24 → List S24
  | [] => []
  | x :: l => turnL l ++ [turnP x]
end
theorem nodesL_append (l m : List S24) : nodesL (l ++ m) = nodesL l + nodesL m := by
  induction l with
  | nil => simp [nodesL]
  | cons x l ih => simp only [List.cons_append, nodesL, ih]; omega
mutual
theorem nodes_turn : ∀ x : S24, nodes (turnP x) = nodes x
  | ⟨k, p, f, t, n, l⟩ => by simp only [turnP, nodes, nodesL_turn l]
theorem nodesL_turn : ∀ l : List S24, nodesL (turnL l) = nodesL l
  | [] => by simp [turnL]
  | x :: l => by simp only [turnL, nodesL_append, nodesL, nodesL_turn l, nodes_turn x]; omega
end
mutual
theorem cases_turn : ∀ x : S24, Same (casesP (turnP x)) (casesP x) ∧ (casesP (turnP x)).length = (casesP x).length
  | ⟨k, p, f, t, n, l⟩ => by
    simp only [turnP, casesP]
    split
    · exact ⟨Same.refl _, rfl⟩
    · split
      · exact any_turn l
      · split
        · exact all_turn l [[]]
        · exact ⟨Same.refl _, rfl⟩
theorem any_turn : ∀ l : List S24, Same (anyP (turnL l)) (anyP l) ∧ (anyP (turnL l)).length = (anyP l).length
  | [] => by simp only [turnL]; exact ⟨Same.refl _, trivial⟩
  | x :: l => by
    obtain ⟨h1, h2⟩ := cases_turn x
    obtain ⟨h3, h4⟩ := any_turn l
    simp only [turnL, anyP_append, anyP, List.append_nil, List.length_append]
    exact ⟨h3.append h1, by omega⟩
theorem all_turn : ∀ (l : List S24) (o : List (List Core)), Same (allP (turnL l) o) (allP l o) ∧ (allP (turnL l) o).length = (allP l o).length
  | [], o => by simp only [turnL]; exact ⟨Same.refl _, trivial⟩
  | x :: l, o => by
    obtain ⟨h1, h2⟩ := cases_turn x
    obtain ⟨h3, h4⟩ := all_turn l o
    simp only [turnL, allP_append, allP]
    refine ⟨(h3.cross h1).trans (allP_cross l (casesP x) o).symm, ?_⟩
    rw [cross_length, h2, h4, allP_count l o, allP_count l (cross o (casesP x)), cross_length]
    simp only [Nat.mul_assoc, Nat.mul_comm]
    rw [Nat.mul_left_comm, Nat.mul_comm (allP l [[]]).length]
end
/-- Does a way meet atoms that never hold at once? -/
noncomputable def clashC (r : List Core) : Bool := r.any fun a => r.any fun b => apartP a b
theorem clashC_mem (r : List Core) : clashC r = true ↔ ∃ a, a ∈ r ∧ ∃ b, b ∈ r ∧ apartP a b = true := by simp [clashC]
theorem clashC_same {r r' : List Core} (h : ∀ c, c ∈ r ↔ c ∈ r') : clashC r = clashC r' := by
  rw [Bool.eq_iff_iff, clashC_mem, clashC_mem]
  simp only [h]
theorem half_some {a b : List (List Core)} (h : Half a b) (k : (a.any fun r => !clashC r) = true) : (b.any fun r => !clashC r) = true := by
  obtain ⟨r, hr, hc⟩ := List.any_eq_true.1 k
  obtain ⟨r1, h1, e1⟩ := h r hr
  exact List.any_eq_true.2 ⟨r1, h1, by rw [← clashC_same e1]; exact hc⟩
theorem same_some {a b : List (List Core)} (h : Same a b) : (a.any fun r => !clashC r) = (b.any fun r => !clashC r) := by
  rw [Bool.eq_iff_iff]
  exact ⟨half_some h.1, half_some h.2⟩
/- May the tree be asked? -/
mutual
def okP : S24 → Bool
  | ⟨k, p, f, t, n, l⟩ => if k = 0 ∨ k = 1 then (okL l && decide ((casesP ⟨k, p, f, t, n, l⟩).length ≤ 4096)) else true
def okL : List S24 → Bool
  | [] => true
  | x :: l => okP x && okL l
end
theorem okL_append (l m : List S24) : okL (l ++ m) = (okL l && okL m) := by
  induction l with
  | nil => simp [okL]
  | cons x l ih => simp only [List.cons_append, okL, ih, Bool.and_assoc]
mutual
theorem ok_turn : ∀ x : S24, okP (turnP x) = okP x
  | ⟨k, p, f, t, n, l⟩ => by
    have h := (cases_turn ⟨k, p, f, t, n, l⟩).2
    simp only [turnP] at h
    simp only [turnP, okP, okL_turn l, h]
theorem okL_turn : ∀ l : List S24, okL (turnL l) = okL l
  | [] => by simp [turnL]
  | x :: l => by simp only [turnL, okL_append, okL, okL_turn l, ok_turn x, Bool.and_true, Bool.true_and, Bool.and_comm]
end
noncomputable def clashP (x : S24) : Bool := if okP x then !((casesP x).any fun r => !clashC r) else false
theorem clash_turn (x : S24) : clashP (turnP x) = clashP x := by
  unfold clashP
  rw [ok_turn, same_some (cases_turn x).1]
end Go.Proofs.YtlgcceojnbobeaaDoor.A

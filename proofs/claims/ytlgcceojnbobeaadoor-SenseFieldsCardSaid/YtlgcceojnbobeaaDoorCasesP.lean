/- sense.cases in plain Lean: the ways in which a tree may hold. -/
import Derived.Test.YtlgcceojnbobeaaDoorConcat
namespace Go.Proofs.YtlgcceojnbobeaaDoor.A
open Go.RowKit Go.Shelf Go.Proofs.YtlgcceojnbobeaaDoorW.PrintWords Go.Proofs.YtlgcceojnbobeaaDoorW.PrintLast Go.Proofs.YtlgcceojnbobeaaDoorW.PrintMore
set_option linter.unusedVariables false
set_option linter.unusedSimpArgs false

def nCore (x : S24) : Core := ⟨x.f0, x.f2, x.f3, x.f4⟩
mutual
def nodes : S24 → Nat
  | ⟨_, _, _, _, _, l⟩ => nodesL l + 1
def nodesL : List S24 → Nat
  | [] => 0
  | x :: l => nodes x + nodesL l
end
/-- Each row behind each row. -/
def cross (out xs : List (List Core)) : List (List Core) := out.flatMap fun a => xs.map fun b => a ++ b
mutual
def casesP : S24 → List (List Core)
  | ⟨k, _, f, t, n, l⟩ => if 3 ≤ k ∧ k ≤ 7 then [[⟨k, f, t, n⟩]] else if k = 1 then anyP l else if k = 0 then allP l [[]] else [[]]
def anyP : List S24 → List (List Core)
  | [] => []
  | x :: l => casesP x ++ anyP l
def allP : List S24 → List (List Core) → List (List Core)
  | [], out => out
  | x :: l, out => allP l (cross out (casesP x))
end
theorem nodes_pos (x : S24) : 1 ≤ nodes x := by cases x; simp [nodes]
theorem nodesL_mem {l : List S24} {x : S24} (h : x ∈ l) : nodes x ≤ nodesL l := by
  induction l with
  | nil => cases h
  | cons y l ih =>
    simp only [nodesL]
    rcases List.mem_cons.1 h with rfl | h
    · omega
    · have := ih h; omega
theorem anyP_append (l m : List S24) : anyP (l ++ m) = anyP l ++ anyP m := by
  induction l with
  | nil => simp [anyP]
  | cons x l ih => simp [anyP, ih]
theorem allP_append (l m : List S24) (out : List (List Core)) : allP (l ++ m) out = allP m (allP l out) := by
  induction l generalizing out with
  | nil => simp [allP]
  | cons x l ih => simp [allP, ih]
theorem anyP_take (l : List S24) (k : Nat) (h : k < l.length) : anyP (l.take (k + 1)) = anyP (l.take k) ++ casesP l[k] := by
  rw [List.take_succ_eq_append_getElem h, anyP_append]; simp [anyP]
theorem allP_take (l : List S24) (out : List (List Core)) (k : Nat) (h : k < l.length) : allP (l.take (k + 1)) out = cross (allP (l.take k) out) (casesP l[k]) := by
  rw [List.take_succ_eq_append_getElem h, allP_append]; simp [allP]
theorem cross_length (out xs : List (List Core)) : (cross out xs).length = out.length * xs.length := by
  unfold cross
  induction out with
  | nil => simp
  | cons a out ih => rw [List.flatMap_cons, List.length_append, ih, List.length_map, List.length_cons, Nat.succ_mul]; omega
theorem pow_add_one (c r a b : Nat) (hc : c + 1 ≤ 2 ^ a) (hr : r + 1 ≤ 2 ^ b) : c + r + 1 ≤ 2 ^ (a + b) := by
  rw [Nat.pow_add]
  have : (c + 1) * (r + 1) ≤ 2 ^ a * 2 ^ b := Nat.mul_le_mul hc hr
  have e : (c + 1) * (r + 1) = c * r + c + r + 1 := by rw [Nat.add_mul, Nat.mul_add]; omega
  omega
mutual
theorem casesP_len : ∀ x : S24, (casesP x).length + 1 ≤ 2 ^ nodes x
  | ⟨k, _, f, t, n, l⟩ => by
    have h1 := anyP_len l
    have h2 := allP_len l [[]]
    have hp : 2 ^ (nodesL l + 1) = 2 ^ nodesL l + 2 ^ nodesL l := by rw [Nat.pow_succ]; omega
    have hq : 1 ≤ 2 ^ nodesL l := Nat.one_le_two_pow
    simp only [casesP, nodes]
    rw [hp]
    split
    · simp; omega
    · split
      · omega
      · split
        · simp only [List.length_cons, List.length_nil] at h2; omega
        · simp; omega
theorem anyP_len : ∀ l : List S24, (anyP l).length + 1 ≤ 2 ^ nodesL l
  | [] => by simp [anyP, nodesL]
  | x :: l => by
    simp only [anyP, nodesL, List.length_append]
    exact pow_add_one _ _ _ _ (casesP_len x) (anyP_len l)
theorem allP_len : ∀ (l : List S24) (out : List (List Core)), (allP l out).length ≤ out.length * 2 ^ nodesL l
  | [], out => by simp [allP, nodesL]
  | x :: l, out => by
    simp only [allP, nodesL]
    refine Nat.le_trans (allP_len l _) ?_
    rw [cross_length, Nat.pow_add, ← Nat.mul_assoc]
    exact Nat.mul_le_mul_right _ (Nat.mul_le_mul_left _ (by have := casesP_len x; omega))
end
theorem mem_cross {r : List Core} {out xs : List (List Core)} (h : r ∈ cross out xs) : ∃ a ∈ out, ∃ b ∈ xs, r = a ++ b := by
  unfold cross at h
  obtain ⟨a, ha, h⟩ := List.mem_flatMap.1 h
  obtain ⟨b, hb, rfl⟩ := List.mem_map.1 h
  exact ⟨a, ha, b, hb, rfl⟩
mutual
theorem casesP_row : ∀ (x : S24) (r : List Core), r ∈ casesP x → r.length ≤ nodes x
  | ⟨k, _, f, t, n, l⟩, r => by
    simp only [casesP, nodes]
    split
    · intro h; rw [List.mem_singleton.1 h]; simp
    · split
      · intro h; have := anyP_row l r h; omega
      · split
        · intro h
          have := allP_row l [[]] 0 (fun a ha => by rw [List.mem_singleton.1 ha]; simp) r h
          omega
        · intro h; rw [List.mem_singleton.1 h]; simp
theorem anyP_row : ∀ (l : List S24) (r : List Core), r ∈ anyP l → r.length ≤ nodesL l
  | [], r => by simp [anyP]
  | x :: l, r => by
    simp only [anyP, nodesL, List.mem_append]
    rintro (h | h)
    · have := casesP_row x r h; omega
    · have := anyP_row l r h; omega
theorem allP_row : ∀ (l : List S24) (out : List (List Core)) (m : Nat), (∀ a ∈ out, a.length ≤ m) → ∀ r ∈ allP l out, r.length ≤ m + nodesL l
  | [], out, m, hm, r => by simp only [allP, nodesL]; exact fun h => hm r h
  | x :: l, out, m, hm, r => by
    simp only [allP, nodesL]
    intro h
    have := allP_row l _ (m + nodes x) (fun a ha => by
      obtain ⟨b, hb, c, hc, rfl⟩ := mem_cross ha
      have h1 := hm b hb
      have h2 := casesP_row x c hc
      rw [List.length_append]; omega) r h
    omega
end
theorem nodesL_take (l : List S24) (k : Nat) : nodesL (l.take k) ≤ nodesL l := by
  induction l generalizing k with
  | nil => simp
  | cons x l ih =>
    cases k with
    | zero => simp [nodesL]
    | succ k => simp only [List.take_succ_cons, nodesL]; have := ih k; omega
theorem nodes_eq (x : S24) : nodes x = nodesL x.f5 + 1 := by cases x; rfl
theorem casesP_eq (x : S24) : casesP x = if 3 ≤ x.f0 ∧ x.f0 ≤ 7 then [[nCore x]] else if x.f0 = 1 then anyP x.f5 else if x.f0 = 0 then allP x.f5 [[]] else [[]] := by cases x; simp only [casesP]; rfl
end Go.Proofs.YtlgcceojnbobeaaDoor.A

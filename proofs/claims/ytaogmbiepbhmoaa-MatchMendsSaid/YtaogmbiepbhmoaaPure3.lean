/- What the law's own tests and the reference's comparisons come to, in plain words. -/
import Derived.Test.YtaogmbiepbhmoaaAx3
import Derived.Test.YtaogmbiepbhmoaaPure2
namespace Go.Proofs.Ytaogmbiepbhmoaa.A
open Go.RowKit ScKit Go.Proofs.YtaogmbiepbhmoaaW.PrintWords Go.Proofs.YtaogmbiepbhmoaaW.PrintLast Go.Proofs.YtaogmbiepbhmoaaW.PrintMore

theorem rd37_at {l : List S37} {i : Nat} (h : i < l.length) : rd_T37 l (i : Int) = l[i] := by simp [rd_T37, h]
theorem rd54_at {l : List S54} {i : Nat} (h : i < l.length) : rd_T54 l (i : Int) = l[i] := by simp [rd_T54, h]

open Classical in
theorem few_l0 (l : List S37) (hn : l.length ≤ 9223372036854775807) (d : Nat) : ∀ (k i : Nat), i + d = l.length → d < k →
    supercargolaw48_few.l0 k l (i : Int) = some (decide (l.length ≤ 20 ∧ ∀ p ∈ l.drop i, p.f2.length ≤ 20 ∧ p.f1.size ≤ 300)) := by
  induction d with
  | zero =>
    intro k i hi hk
    obtain ⟨k, rfl⟩ : ∃ m, k = m + 1 := ⟨k - 1, by omega⟩
    simp only [supercargolaw48_few.l0]
    rw [if_neg (by omega), List.drop_eq_nil_of_le (by omega)]
    congr 1
    rw [Bool.eq_iff_iff]
    simp
    omega
  | succ d ih =>
    intro k i hi hk
    obtain ⟨k, rfl⟩ : ∃ m, k = m + 1 := ⟨k - 1, by omega⟩
    simp only [supercargolaw48_few.l0]
    have hx : i < l.length := by omega
    rw [if_pos (by omega), if_pos (by omega), rd37_at hx, List.drop_eq_getElem_cons hx]
    by_cases h1 : ((l[i].f2).length : Int) > 20
    · rw [if_pos h1]
      congr 1
      refine (decide_eq_false (fun h => ?_)).symm
      have := (h.2 l[i] List.mem_cons_self).1
      omega
    · rw [if_neg h1]
      by_cases h2 : ((l[i].f1).size : Int) > 300
      · rw [if_pos h2]
        congr 1
        refine (decide_eq_false (fun h => ?_)).symm
        have := (h.2 l[i] List.mem_cons_self).2
        omega
      · rw [if_neg h2, wrap_succ (by omega) (by omega) hn]
        have := ih k (i + 1) (by omega) (by omega)
        rw [show ((i : Int) + 1) = ((i + 1 : Nat) : Int) by omega, this]
        congr 2
        simp only [List.mem_cons, forall_eq_or_imp]
        refine propext (and_congr_right fun _ => ⟨fun h => ⟨⟨by omega, by omega⟩, h⟩, fun h => h.2⟩)
open Classical in
theorem few_f (l : List S37) (hn : l.length ≤ 9223372036854775807) : supercargolaw48_few.f (l.length + 1) l = some (decide (Few l)) := by
  have := few_l0 l hn l.length (l.length + 1) 0 (by omega) (by omega)
  rw [List.drop_zero] at this
  refine Eq.trans this (congrArg some ?_)
  rw [Bool.eq_iff_iff, decide_eq_true_eq, decide_eq_true_eq]
  exact Iff.rfl

open Classical in
theorem ref36_l0 (xs ys : List S54) (he : xs.length = ys.length) (hn : xs.length ≤ 9223372036854775807) (d : Nat) : ∀ (k i : Nat), i + d = xs.length → d < k →
    supercargoref36_Same.l0 k xs ys (i : Int) = some (decide (xs.drop i = ys.drop i)) := by
  induction d with
  | zero =>
    intro k i hi hk
    obtain ⟨k, rfl⟩ : ∃ m, k = m + 1 := ⟨k - 1, by omega⟩
    simp only [supercargoref36_Same.l0]
    rw [if_neg (by omega), List.drop_eq_nil_of_le (by omega), List.drop_eq_nil_of_le (by omega)]
    simp
  | succ d ih =>
    intro k i hi hk
    obtain ⟨k, rfl⟩ : ∃ m, k = m + 1 := ⟨k - 1, by omega⟩
    simp only [supercargoref36_Same.l0]
    have hx : i < xs.length := by omega
    have hy : i < ys.length := by omega
    rw [if_pos (by omega), if_pos (by omega), if_pos (by omega), ent_test, List.drop_eq_getElem_cons hx, List.drop_eq_getElem_cons hy, rd54_at hx, rd54_at hy]
    by_cases h : xs[i] = ys[i]
    · rw [if_neg (by simp [h]), wrap_succ (by omega) (by omega) hn]
      have := ih k (i + 1) (by omega) (by omega)
      rw [show ((i : Int) + 1) = ((i + 1 : Nat) : Int) by omega, this, h]
      congr 2
      simp only [List.cons.injEq, true_and]
    · rw [if_pos (by simp [h])]
      congr 1
      exact (decide_eq_false (fun e => h (List.cons.inj e).1)).symm
open Classical in
theorem ref36_f (xs ys : List S54) (hn : xs.length ≤ 9223372036854775807) (k : Nat) (hk : xs.length < k) : supercargoref36_Same.f k xs ys = some (decide (xs = ys)) := by
  unfold supercargoref36_Same.f
  by_cases h : xs.length = ys.length
  · rw [if_pos (by omega)]
    have := ref36_l0 xs ys h hn xs.length k 0 (by omega) hk
    simpa using this
  · rw [if_neg (by omega)]
    simp [show ¬ xs = ys from fun e => h (by rw [e])]
open Classical in
theorem ref48Like_f (p q : S37) (hn : p.f2.length ≤ 9223372036854775807) (k : Nat) (hk : p.f2.length < k) : supercargoref48_Like.f k p.f0 p.f1 p.f2 q.f0 q.f1 q.f2 = some (decide (p = q)) := by
  unfold supercargoref48_Like.f
  by_cases h0 : p.f0 = q.f0
  · rw [if_pos h0]
    by_cases h1 : p.f1 = q.f1
    · rw [if_pos (bytes_eq.2 h1), ref36_f _ _ hn k hk]
      have : (p.f2 = q.f2) = (p = q) := propext ⟨fun h2 => S37_ext h0 h1 h2, fun h => by rw [h]⟩
      simp [this]
    · rw [if_neg (fun h => h1 (bytes_eq.1 h))]
      simp [show ¬ p = q from fun e => h1 (by rw [e])]
  · rw [if_neg h0]
    simp [show ¬ p = q from fun e => h0 (by rw [e])]
open Classical in
theorem same_l0 (xs ys : List S37) (he : xs.length = ys.length) (hn : xs.length ≤ 9223372036854775807) (m : Nat) (hm : m ≤ 9223372036854775807) (hs : ∀ p ∈ xs, p.f2.length ≤ m) (d : Nat) : ∀ (k i : Nat), i + d = xs.length → d + m < k →
    supercargoref48_Same.l0 (k + 1) xs ys (i : Int) = some (decide (xs.drop i = ys.drop i)) := by
  induction d with
  | zero =>
    intro k i hi hk
    simp only [supercargoref48_Same.l0]
    rw [if_neg (by omega), List.drop_eq_nil_of_le (by omega), List.drop_eq_nil_of_le (by omega)]
    simp
  | succ d ih =>
    intro k i hi hk
    simp only [supercargoref48_Same.l0]
    have hx : i < xs.length := by omega
    have hy : i < ys.length := by omega
    have hp := hs xs[i] (List.getElem_mem hx)
    rw [if_pos (by omega), if_pos (by omega), if_pos (by omega), List.drop_eq_getElem_cons hx, List.drop_eq_getElem_cons hy, rd37_at hx, rd37_at hy, ref48Like_f _ _ (by omega) k (by omega)]
    obtain ⟨k, rfl⟩ : ∃ m, k = m + 1 := ⟨k - 1, by omega⟩
    by_cases h : xs[i] = ys[i]
    · simp only [Option.bind_some]
      rw [if_pos (by simpa using h), wrap_succ (by omega) (by omega) hn]
      have := ih k (i + 1) (by omega) (by omega)
      rw [show ((i : Int) + 1) = ((i + 1 : Nat) : Int) by omega, this, h]
      congr 2
      simp only [List.cons.injEq, true_and]
    · simp only [Option.bind_some]
      rw [if_neg (by simpa using h)]
      congr 1
      exact (decide_eq_false (fun e => h (List.cons.inj e).1)).symm
open Classical in
theorem same_f (xs ys : List S37) (hs : Sm xs) : supercargoref48_Same.f 2010 xs ys = some (decide (xs = ys)) := by
  unfold supercargoref48_Same.f
  by_cases h : xs.length = ys.length
  · rw [if_pos (by omega)]
    have := same_l0 xs ys h (by have := hs.1; omega) 1000 (by omega) (fun p hp => (hs.2 p hp).2) xs.length 2009 0 (by omega) (by have := hs.1; omega)
    simpa using this
  · rw [if_neg (by omega)]
    simp [show ¬ xs = ys from fun e => h (by rw [e])]
theorem Few.sm {l : List S37} (h : Few l) (hw : ∀ p ∈ l, (Lit.int .i64 p.f0).wf = true) : Sm l :=
  ⟨by have := h.1; omega, fun p hp => ⟨hw p hp, by have := (h.2 p hp).1; omega⟩⟩

open Classical in
theorem ints_l0 (xs ys : List Int) (he : xs.length = ys.length) (hn : xs.length ≤ 9223372036854775807) (d : Nat) : ∀ (k i : Nat), i + d = xs.length → d < k →
    supercargolaw48_ints.l0 k xs ys (i : Int) = some (decide (xs.drop i = ys.drop i)) := by
  induction d with
  | zero =>
    intro k i hi hk
    obtain ⟨k, rfl⟩ : ∃ m, k = m + 1 := ⟨k - 1, by omega⟩
    simp only [supercargolaw48_ints.l0]
    rw [if_neg (by omega), List.drop_eq_nil_of_le (by omega), List.drop_eq_nil_of_le (by omega)]
    simp
  | succ d ih =>
    intro k i hi hk
    obtain ⟨k, rfl⟩ : ∃ m, k = m + 1 := ⟨k - 1, by omega⟩
    simp only [supercargolaw48_ints.l0]
    have hx : i < xs.length := by omega
    have hy : i < ys.length := by omega
    have ex : rd xs (i : Int) = xs[i] := by simp [rd, hx]
    have ey : rd ys (i : Int) = ys[i] := by simp [rd, hy]
    rw [if_pos (by omega), if_pos (by omega), if_pos (by omega), List.drop_eq_getElem_cons hx, List.drop_eq_getElem_cons hy, ex, ey]
    by_cases h : xs[i] = ys[i]
    · rw [if_pos h, wrap_succ (by omega) (by omega) hn]
      have := ih k (i + 1) (by omega) (by omega)
      rw [show ((i : Int) + 1) = ((i + 1 : Nat) : Int) by omega, this, h]
      congr 2
      simp only [List.cons.injEq, true_and]
    · rw [if_neg h]
      congr 1
      exact (decide_eq_false (fun e => h (List.cons.inj e).1)).symm
open Classical in
theorem ints_f (xs ys : List Int) (hn : xs.length ≤ 9223372036854775807) : supercargolaw48_ints.f (xs.length + 1) xs ys = some (decide (xs = ys)) := by
  unfold supercargolaw48_ints.f
  by_cases h : xs.length = ys.length
  · rw [if_pos (by omega)]
    have := ints_l0 xs ys h hn xs.length (xs.length + 1) 0 (by omega) (by omega)
    simpa using this
  · rw [if_neg (by omega)]
    simp [show ¬ xs = ys from fun e => h (by rw [e])]
end Go.Proofs.Ytaogmbiepbhmoaa.A

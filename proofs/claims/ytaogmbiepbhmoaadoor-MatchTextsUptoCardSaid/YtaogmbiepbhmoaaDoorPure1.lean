/- What the printed functions of entries and posts come to, in plain words. -/
import Derived.Test.YtaogmbiepbhmoaaDoorAx2
import Derived.WideShapes
namespace Go.Proofs.YtaogmbiepbhmoaaDoor.A
open Go.RowKit Go.Proofs.YtaogmbiepbhmoaaDoorW.PrintWords Go.Proofs.YtaogmbiepbhmoaaDoorW.PrintLast Go.Proofs.YtaogmbiepbhmoaaDoorW.PrintMore

theorem bytes_eq {a b : ByteArray} : a.toList = b.toList ↔ a = b := by
  constructor
  · intro h
    rw [Go.ByteArray.toList_eq, Go.ByteArray.toList_eq] at h
    exact Go.WideShapes.bytes_inj h
  · intro h; rw [h]
theorem bytes_beq {a b : ByteArray} : (a.toList == b.toList) = true ↔ a = b := by rw [beq_iff_eq]; exact bytes_eq

theorem S46_ext {a b : S46} (h0 : a.f0 = b.f0) (h1 : a.f1 = b.f1) (h2 : a.f2 = b.f2) : a = b := by cases a; cases b; simp_all
theorem S29_ext {a b : S29} (h0 : a.f0 = b.f0) (h1 : a.f1 = b.f1) (h2 : a.f2 = b.f2) : a = b := by cases a; cases b; simp_all
open Classical in
theorem ent_test (a b : S46) : ((!(a.f0.toList == b.f0.toList)) || ((!(a.f1.toList == b.f1.toList)) || (!(a.f2 == b.f2)))) = !decide (a = b) := by
  by_cases h : a = b
  · subst h; simp
  · have : ¬ (a.f0 = b.f0 ∧ a.f1 = b.f1 ∧ a.f2 = b.f2) := fun ⟨h0, h1, h2⟩ => h (S46_ext h0 h1 h2)
    have e0 : (a.f0.toList == b.f0.toList) = decide (a.f0 = b.f0) := by rw [Bool.eq_iff_iff]; simp [bytes_eq]
    have e1 : (a.f1.toList == b.f1.toList) = decide (a.f1 = b.f1) := by rw [Bool.eq_iff_iff]; simp [bytes_eq]
    rw [e0, e1]
    by_cases h0 : a.f0 = b.f0 <;> by_cases h1 : a.f1 = b.f1 <;> by_cases h2 : a.f2 = b.f2 <;> simp_all
theorem wrap_succ {i : Int} {n : Nat} (h0 : 0 ≤ i) (h : i < (n : Int)) (hn : n ≤ 9223372036854775807) : wrap64 (i + 1) = i + 1 := by unfold wrap64; omega

open Classical in
theorem entry_l0 (xs ys : List S46) (he : xs.length = ys.length) (hn : xs.length ≤ 9223372036854775807) (d : Nat) : ∀ (k i : Nat), i + d = xs.length → d < k →
    api_Entry.l0 k xs ys (xs.length : Int) (i : Int) = some (decide (xs.drop i = ys.drop i)) := by
  induction d with
  | zero =>
    intro k i hi hk
    obtain ⟨k, rfl⟩ : ∃ m, k = m + 1 := ⟨k - 1, by omega⟩
    simp only [api_Entry.l0]
    rw [if_neg (by omega), List.drop_eq_nil_of_le (by omega), List.drop_eq_nil_of_le (by omega)]
    simp
  | succ d ih =>
    intro k i hi hk
    obtain ⟨k, rfl⟩ : ∃ m, k = m + 1 := ⟨k - 1, by omega⟩
    simp only [api_Entry.l0]
    have hx : i < xs.length := by omega
    have hy : i < ys.length := by omega
    rw [if_pos (by omega), if_pos (by omega), if_pos (by omega), if_pos (by omega), ent_test]
    have dx := List.drop_eq_getElem_cons hx
    have dy := List.drop_eq_getElem_cons hy
    rw [dx, dy]
    have ex : rd_T46 xs (i : Int) = xs[i] := by simp [rd_T46, hx]
    have ey : rd_T46 ys (i : Int) = ys[i] := by simp [rd_T46, hy]
    rw [ex, ey]
    by_cases h : xs[i] = ys[i]
    · rw [if_neg (by simp [h]), wrap_succ (by omega) (by omega) hn]
      have := ih k (i + 1) (by omega) (by omega)
      rw [show ((i : Int) + 1) = ((i + 1 : Nat) : Int) by omega, this, h]
      congr 2
      simp only [List.cons.injEq, true_and]
    · rw [if_pos (by simp [h])]
      congr 1
      exact (decide_eq_false (fun e => h (List.cons.inj e).1)).symm
open Classical in
theorem entry_f (xs ys : List S46) (hn : xs.length ≤ 9223372036854775807) (k : Nat) (hk : xs.length < k) : api_Entry.f k xs ys = some (decide (xs = ys)) := by
  unfold api_Entry.f
  by_cases h : xs.length = ys.length
  · rw [if_pos (by omega)]
    have := entry_l0 xs ys h hn xs.length k 0 (by omega) hk
    simpa using this
  · rw [if_neg (by omega)]
    simp [show ¬ xs = ys from fun e => h (by rw [e])]
open Classical in
theorem like_f (p q : S29) (hn : p.f2.length ≤ 9223372036854775807) (k : Nat) (hk : p.f2.length < k) : match_like.f k p.f0 p.f1 p.f2 q.f0 q.f1 q.f2 = some (decide (p = q)) := by
  unfold match_like.f
  by_cases h0 : p.f0 = q.f0
  · rw [if_pos h0]
    by_cases h1 : p.f1 = q.f1
    · rw [if_pos (bytes_eq.2 h1), entry_f _ _ hn k hk]
      have : (p.f2 = q.f2) = (p = q) := propext ⟨fun h2 => S29_ext h0 h1 h2, fun h => by rw [h]⟩
      simp [this]
    · rw [if_neg (fun h => h1 (bytes_eq.1 h))]
      simp [show ¬ p = q from fun e => h1 (by rw [e])]
  · rw [if_neg h0]
    simp [show ¬ p = q from fun e => h0 (by rw [e])]
end Go.Proofs.YtaogmbiepbhmoaaDoor.A

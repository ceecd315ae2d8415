/- Where a number is found, and supercargoref48.Only: it gathers what the program's own only gathers. -/
import Derived.Test.YtaogmbiepbhmoaaPure3
import Derived.Test.YtaogmbiepbhmoaaClone
namespace Go.Proofs.Ytaogmbiepbhmoaa.A
open Go.RowKit Go.Maps ScKit Go.Proofs.YtaogmbiepbhmoaaW.PrintWords Go.Proofs.YtaogmbiepbhmoaaW.PrintLast Go.Proofs.YtaogmbiepbhmoaaW.PrintMore

/-- The place, from i on, of the first post of a number; -1: there is none. -/
def placeFrom : List S37 → Int → Int → Int
  | [], _, _ => -1
  | p :: l, n, i => if p.f0 = n then i else placeFrom l n (i + 1)
theorem find_l0 (l : List S37) (n : Int) (hn : l.length ≤ 9223372036854775807) (d : Nat) : ∀ (k i : Nat), i + d = l.length → d < k →
    supercargoref48_Find.l0 k l n (i : Int) = some (placeFrom (l.drop i) n (i : Int)) := by
  induction d with
  | zero =>
    intro k i hi hk
    obtain ⟨k, rfl⟩ : ∃ m, k = m + 1 := ⟨k - 1, by omega⟩
    simp only [supercargoref48_Find.l0]
    rw [if_neg (by omega), List.drop_eq_nil_of_le (by omega)]
    rfl
  | succ d ih =>
    intro k i hi hk
    obtain ⟨k, rfl⟩ : ∃ m, k = m + 1 := ⟨k - 1, by omega⟩
    simp only [supercargoref48_Find.l0]
    have hx : i < l.length := by omega
    rw [if_pos (by omega), if_pos (by omega), rd37_at hx, List.drop_eq_getElem_cons hx]
    show _ = some (if l[i].f0 = n then (i : Int) else placeFrom (l.drop (i + 1)) n ((i : Int) + 1))
    by_cases h : l[i].f0 = n
    · rw [if_pos h, if_pos h]
    · rw [if_neg h, if_neg h, wrap_succ (by omega) (by omega) hn]
      have := ih k (i + 1) (by omega) (by omega)
      rwa [show ((i : Int) + 1) = ((i + 1 : Nat) : Int) by omega]
theorem find_f (l : List S37) (n : Int) (hn : l.length ≤ 9223372036854775807) : supercargoref48_Find.f (l.length + 1) l n = some (placeFrom l n 0) := by
  have := find_l0 l n hn l.length (l.length + 1) 0 (by omega) (by omega)
  rwa [List.drop_zero] at this
theorem place_spec (l : List S37) (n : Int) : ∀ i0 : Int, (firstOf l n = none ∧ placeFrom l n i0 = -1) ∨
    ∃ (j : Nat) (hj : j < l.length), placeFrom l n i0 = i0 + j ∧ l[j].f0 = n ∧ firstOf l n = some l[j] ∧ firstOf (l.take j) n = none := by
  induction l with
  | nil => intro i0; exact .inl ⟨rfl, rfl⟩
  | cons p l ih =>
    intro i0
    by_cases h : p.f0 = n
    · exact .inr ⟨0, by simp, by simp [placeFrom, h], h, by simp [firstOf, h], rfl⟩
    · have hb : (p.f0 == n) = false := by simpa using h
      rcases ih (i0 + 1) with ⟨h1, h2⟩ | ⟨j, hj, h1, h2, h3, h4⟩
      · refine .inl ⟨?_, ?_⟩
        · unfold firstOf at h1 ⊢
          rw [List.find?_cons, hb]; exact h1
        · show (if p.f0 = n then i0 else placeFrom l n (i0 + 1)) = -1
          rw [if_neg h, h2]
      · refine .inr ⟨j + 1, by simpa using hj, ?_, by simpa using h2, ?_, ?_⟩
        · show (if p.f0 = n then i0 else placeFrom l n (i0 + 1)) = _
          rw [if_neg h, h1]; omega
        · unfold firstOf at h3 ⊢
          rw [List.find?_cons, hb]; simpa using h3
        · unfold firstOf at h4 ⊢
          rw [List.take_succ_cons, List.find?_cons, hb]; exact h4
theorem place_none {l : List S37} {n : Int} : placeFrom l n 0 < 0 ↔ firstOf l n = none := by
  rcases place_spec l n 0 with ⟨h1, h2⟩ | ⟨j, hj, h1, _, h3, _⟩
  · rw [h1, h2]; simp
  · rw [h1, h3]; simp
theorem place_some {l : List S37} {n : Int} (h : 0 ≤ placeFrom l n 0) : ∃ (j : Nat) (hj : j < l.length), placeFrom l n 0 = j ∧ firstOf l n = some l[j] := by
  rcases place_spec l n 0 with ⟨_, h2⟩ | ⟨j, hj, h1, _, h3, _⟩
  · omega
  · exact ⟨j, hj, by omega, h3⟩
theorem place_self {l : List S37} {i : Nat} (hi : i < l.length) : placeFrom l l[i].f0 0 = (i : Int) ↔ firstOf (l.take i) l[i].f0 = none := by
  rcases place_spec l l[i].f0 0 with ⟨h1, _⟩ | ⟨j, hj, h1, h2, _, h4⟩
  · exact absurd (List.find?_eq_none.1 h1 l[i] (List.getElem_mem hi)) (by simp)
  · constructor
    · intro h
      have : j = i := by omega
      subst this
      exact h4
    · intro h
      rcases Nat.lt_trichotomy j i with hlt | rfl | hgt
      · have hm : l[j] ∈ l.take i := by
          rw [List.mem_take_iff_getElem]
          exact ⟨j, by omega, rfl⟩
        exact absurd (List.find?_eq_none.1 h _ hm) (by simp [h2])
      · omega
      · have hm : l[i] ∈ l.take j := by
          rw [List.mem_take_iff_getElem]
          exact ⟨i, by omega, rfl⟩
        exact absurd (List.find?_eq_none.1 h4 _ hm) (by simp)

theorem heap54 : Kd.Heap k54 := Kd.heap_iso _ (Kd.heap_pair Kd.heap_string (Kd.heap_pair Kd.heap_string (Kd.heap_int .i64)))
theorem N_lit0 {α : Type} (d : Kd α) (w : World) (e : TypeId) : Kd.N d e (w.alloc (.cells #[] e)) w.heap.size (fun _ => True) (.slice (some ⟨w.heap.size, 0, none⟩) 0 0) [] :=
  Kd.N_mono (Kd.R_N (R_lit0 d w e)) (fun _ _ => trivial)
end Go.Proofs.Ytaogmbiepbhmoaa.A

/- Unlike numbers, gathered rising: each is put in at its place. -/
import Derived.Test.YtaogmbiepbhmoaaFind
namespace Go.Proofs.Ytaogmbiepbhmoaa.A
open Go.RowKit Go.Maps ScKit Go.Proofs.YtaogmbiepbhmoaaW.PrintWords Go.Proofs.YtaogmbiepbhmoaaW.PrintLast Go.Proofs.YtaogmbiepbhmoaaW.PrintMore

theorem rising_ins {os : List Int} {n : Int} {m : Nat} (h : os.Pairwise (· < ·)) (h1 : ∀ x ∈ os.take m, x < n) (h2 : ∀ x ∈ os.drop m, n < x) : (os.take m ++ [n] ++ os.drop m).Pairwise (· < ·) := by
  have h0 : os.take m ++ os.drop m = os := List.take_append_drop m os
  rw [← h0, List.pairwise_append] at h
  obtain ⟨p1, p2, p3⟩ := h
  rw [List.append_assoc, List.pairwise_append]
  refine ⟨p1, ?_, fun x hx y hy => ?_⟩
  · exact List.pairwise_cons.2 ⟨fun y hy => h2 y hy, p2⟩
  · rcases List.mem_cons.1 hy with rfl | hy
    · exact h1 x hx
    · exact p3 x hx y hy
theorem above_rest {os : List Int} {n : Int} {m : Nat} (h : os.Pairwise (· < ·)) (hn : n ∉ os) (he : ∀ hm : m < os.length, ¬ os[m] < n) : ∀ x ∈ os.drop m, n < x := by
  intro x hx
  by_cases hm : m < os.length
  · rw [List.drop_eq_getElem_cons hm] at hx
    have h0 := he hm
    have h1 : os[m] ≠ n := fun e => hn (e ▸ List.getElem_mem hm)
    rcases List.mem_cons.1 hx with rfl | hx
    · omega
    · have h2 : (os.drop m).Pairwise (· < ·) := List.Pairwise.sublist (List.drop_sublist m os) h
      rw [List.drop_eq_getElem_cons hm] at h2
      have := (List.pairwise_cons.1 h2).1 x hx
      omega
  · rw [List.drop_eq_nil_of_le (by omega)] at hx
    cases hx
theorem mem_ins {os : List Int} {n x : Int} {m : Nat} : x ∈ os.take m ++ [n] ++ os.drop m ↔ x = n ∨ x ∈ os := by
  have h0 : os.take m ++ os.drop m = os := List.take_append_drop m os
  conv => rhs; rw [← h0]
  simp only [List.mem_append, List.mem_cons, List.not_mem_nil, or_false]
  constructor
  · rintro ((h | h) | h)
    · exact .inr (.inl h)
    · exact .inl h
    · exact .inr (.inr h)
  · rintro (h | h | h)
    · exact .inl (.inr h)
    · exact .inl (.inl h)
    · exact .inr h

/-- The unlike ones of the first k posts, rising. -/
def UG (a b : List S37) (k : Nat) (os : List Int) : Prop := os.Pairwise (· < ·) ∧ (∀ x, x ∈ os ↔ (firstOf (a.take k) x).isSome = true ∧ UnlikeAt a b x) ∧ os.length ≤ k
theorem UG.zero (a b : List S37) : UG a b 0 [] := ⟨List.Pairwise.nil, fun x => by simp [firstOf], Nat.le_refl _⟩
theorem some_snoc (a : List S37) (k : Nat) (h : k < a.length) (x : Int) : (firstOf (a.take (k + 1)) x).isSome = true ↔ (firstOf (a.take k) x).isSome = true ∨ x = (rd_T37 a k).f0 := by
  rw [firstOf_snoc a k h]
  by_cases e : (rd_T37 a k).f0 = x
  · subst e; cases firstOf (a.take k) (rd_T37 a k).f0 <;> simp
  · rw [if_neg e]
    cases firstOf (a.take k) x <;> simp [Ne.symm e]
theorem UG.stay {a b : List S37} {k : Nat} {os : List Int} (h : UG a b k os) (hk : k < a.length) (hn : (firstOf (a.take k) (rd_T37 a k).f0).isSome = true ∨ ¬ UnlikeAt a b (rd_T37 a k).f0) : UG a b (k + 1) os := by
  refine ⟨h.1, fun x => ?_, by have := h.2.2; omega⟩
  rw [h.2.1, some_snoc a k hk]
  constructor
  · rintro ⟨h1, h2⟩; exact ⟨.inl h1, h2⟩
  · rintro ⟨h1 | rfl, h2⟩
    · exact ⟨h1, h2⟩
    · rcases hn with h3 | h3
      · exact ⟨h3, h2⟩
      · exact absurd h2 h3
theorem UG.add {a b : List S37} {k : Nat} {os : List Int} (h : UG a b k os) (hk : k < a.length) (hf : firstOf (a.take k) (rd_T37 a k).f0 = none) (hu : UnlikeAt a b (rd_T37 a k).f0) {m : Nat} (h1 : ∀ x ∈ os.take m, x < (rd_T37 a k).f0) (he : ∀ hm : m < os.length, ¬ os[m] < (rd_T37 a k).f0) :
    UG a b (k + 1) (os.take m ++ [(rd_T37 a k).f0] ++ os.drop m) := by
  have hn : (rd_T37 a k).f0 ∉ os := fun hm => by have := ((h.2.1 _).1 hm).1; rw [hf] at this; cases this
  refine ⟨rising_ins h.1 h1 (above_rest h.1 hn he), fun x => ?_, by have := h.2.2; simp; omega⟩
  rw [mem_ins, h.2.1, some_snoc a k hk]
  constructor
  · rintro (rfl | ⟨h3, h4⟩)
    · exact ⟨.inr rfl, hu⟩
    · exact ⟨.inl h3, h4⟩
  · rintro ⟨h3 | h3, h4⟩
    · exact .inr ⟨h3, h4⟩
    · exact .inl h3
theorem UG.len {a b : List S37} {k : Nat} {os : List Int} (h : UG a b k os) : os.length ≤ k := h.2.2
theorem UG.whole {a b : List S37} {os : List Int} (h : UG a b a.length os) : os.Nodup ∧ os.Pairwise (· ≤ ·) ∧ ∀ x, x ∈ os ↔ UnlikeAt a b x := by
  refine ⟨List.Pairwise.imp (fun {x y} h => by omega) h.1, List.Pairwise.imp (fun {x y} h => by omega) h.1, fun x => ?_⟩
  rw [h.2.1, List.take_length]
  constructor
  · exact fun h => h.2
  · rintro ⟨p, q, h1, h2, h3⟩
    exact ⟨by rw [h1]; rfl, p, q, h1, h2, h3⟩
theorem first_here {a : List S37} {k : Nat} (hk : k < a.length) (hf : firstOf (a.take k) (rd_T37 a k).f0 = none) : firstOf a (rd_T37 a k).f0 = some (rd_T37 a k) := by
  have h0 : a.take (k + 1) ++ a.drop (k + 1) = a := List.take_append_drop (k + 1) a
  have h1 := firstOf_snoc a k hk (rd_T37 a k).f0
  rw [hf, if_pos rfl] at h1
  generalize (rd_T37 a k).f0 = n at h1 ⊢
  generalize rd_T37 a k = p at h1 ⊢
  rw [← h0]
  unfold firstOf at h1 ⊢
  rw [List.find?_append, h1]
  rfl
theorem unlike_here {a b : List S37} {k j : Nat} (hk : k < a.length) (hj : j < b.length) (hf : firstOf (a.take k) (rd_T37 a k).f0 = none) (hb : firstOf b (rd_T37 a k).f0 = some b[j]) : UnlikeAt a b (rd_T37 a k).f0 ↔ rd_T37 a k ≠ rd_T37 b j := by
  rw [rd37_at hj]
  constructor
  · rintro ⟨p, q, h1, h2, h3⟩
    rw [first_here hk hf] at h1
    rw [hb] at h2
    cases h1; cases h2
    exact h3
  · exact fun h => ⟨_, _, first_here hk hf, hb, h⟩
theorem unlike_none {a b : List S37} {n : Int} (hb : firstOf b n = none) : ¬ UnlikeAt a b n := by
  rintro ⟨p, q, _, h2, _⟩
  rw [hb] at h2
  cases h2

/-- Two rows of whole numbers that this call has made, apart. -/
def Apart2 (B : Nat) (w : World) (v1 : Value) (xs : List Int) (v2 : Value) (ys : List Int) : Prop :=
  (Kd.int .i64).R 3 w B (fun k => some k ≠ v2.ownBlock) v1 xs ∧ (Kd.int .i64).R 3 w B (fun k => some k ≠ v1.ownBlock) v2 ys
theorem Apart2.mk_new {B : Nat} {W w1 : World} {ok1 ok2 : Nat → Prop} {v1 v2 : Value} {xs ys : List Int} (h1 : (Kd.int .i64).R 3 W B ok1 v1 xs) (hg : W.grownBy w1 none) (h2 : (Kd.int .i64).R 3 w1 B ok2 v2 ys) (hv : ∃ b, v2.ownBlock = some b ∧ W.heap.size ≤ b) : Apart2 B w1 v1 xs v2 ys := by
  obtain ⟨b, hb2, hlt⟩ := hv
  refine ⟨Kd.R_mono (Kd.R_tight2 rfl (Kd.R_grown h1 hg (fun k _ => by simp))) (fun k hk e => ?_), Kd.R_mono (Kd.R_tight2 rfl h2) (fun k hk e => ?_)⟩
  · have := Kd.R_lt h1 k hk.1.symm
    rw [hb2] at e
    injection e with e
    omega
  · have := Kd.R_lt h1 k e.symm
    have := hk.1
    rw [hb2] at this
    injection this with this
    omega
theorem Apart2.fresh {B : Nat} {W : World} {v1 v2 : Value} {xs ys : List Int} (h : Apart2 B W v1 xs v2 ys) : ∀ k, W.heap.size ≤ k → some k ≠ v2.ownBlock := fun k hk e => by
  have := Kd.R_lt h.2 k e.symm
  omega
theorem reps_one (W : World) (base : Nat) (ok : Nat → Prop) (n : Int) : Reps ((Kd.int .i64).M W base ok) 1 [n] [.int .i64 n] := Reps.snoc (ps := []) (cs := []) (Reps.none _ _) rfl rfl
theorem Apart2.swap {B : Nat} {w : World} {v1 v2 : Value} {xs ys : List Int} (h : Apart2 B w v1 xs v2 ys) : Apart2 B w v2 ys v1 xs := ⟨h.2, h.1⟩
theorem Apart2.grow {B : Nat} {W w1 : World} {v1 v2 v1' : Value} {xs ys zs : List Int} (h : Apart2 B W v1 xs v2 ys) (hn : (Kd.int .i64).R 3 w1 B (fun k => some k ≠ v2.ownBlock) v1' zs) (hg : W.grownBy w1 v1.ownBlock) (hat : v1'.ownBlock = v1.ownBlock ∨ ∃ b, v1'.ownBlock = some b ∧ W.heap.size ≤ b) : Apart2 B w1 v1' zs v2 ys := by
  refine ⟨hn, Kd.R_mono (Kd.R_tight2 rfl (Kd.R_grown h.2 hg (fun k hk => hk))) (fun k hk e => ?_)⟩
  rcases hat with e1 | ⟨b, e1, hb⟩
  · rw [e1] at e; exact hk.2 e
  · have := Kd.R_lt h.2 k hk.1.symm
    rw [e1] at e
    injection e with e
    omega
end Go.Proofs.Ytaogmbiepbhmoaa.A

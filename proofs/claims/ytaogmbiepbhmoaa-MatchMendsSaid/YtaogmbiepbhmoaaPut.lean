/- A post put in by its number: what supercargoref48.put comes to, and what many puts make. -/
import Derived.Test.YtaogmbiepbhmoaaAx4
import Derived.Test.YtaogmbiepbhmoaaFind
namespace Go.Proofs.Ytaogmbiepbhmoaa.A
open Go.RowKit Go.Maps ScKit Go.Proofs.YtaogmbiepbhmoaaW.PrintWords Go.Proofs.YtaogmbiepbhmoaaW.PrintLast Go.Proofs.YtaogmbiepbhmoaaW.PrintMore

/-- Ahead of the first that is not below it. -/
def insP : List S37 → S37 → List S37
  | [], p => [p]
  | q :: l, p => if q.f0 < p.f0 then q :: insP l p else p :: q :: l
theorem insP_len (l : List S37) (p : S37) : (insP l p).length = l.length + 1 := by
  induction l with
  | nil => rfl
  | cons q l ih =>
    unfold insP
    split
    · simp [ih]
    · simp
theorem put_l0 (l : List S37) (p : S37) (hn : l.length ≤ 100000) (d : Nat) : ∀ (k i : Nat), i + d = l.length → d < k →
    supercargoref48_put.l0 k l (i : Int) p.f0 p.f1 p.f2 = some (l.take i ++ insP (l.drop i) p) := by
  induction d with
  | zero =>
    intro k i hi hk
    obtain ⟨k, rfl⟩ : ∃ m, k = m + 1 := ⟨k - 1, by omega⟩
    simp only [supercargoref48_put.l0]
    rw [if_neg (by omega), List.drop_eq_nil_of_le (by omega)]
    simp only [Option.bind_some, Int.toNat_natCast, List.nil_append, List.length_nil]
    rw [if_pos (by omega), if_pos (by omega), if_pos (by simp; omega), if_pos (by simp; omega), if_pos (by simp; omega), List.drop_eq_nil_of_le (by omega)]
    simp [insP]
  | succ d ih =>
    intro k i hi hk
    obtain ⟨k, rfl⟩ : ∃ m, k = m + 1 := ⟨k - 1, by omega⟩
    simp only [supercargoref48_put.l0]
    have hx : i < l.length := by omega
    rw [if_pos (by omega), if_pos (by omega), rd37_at hx]
    by_cases h : l[i].f0 < p.f0
    · rw [if_pos h, wrap_succ (by omega) (by omega) (n := l.length) (by omega)]
      have := ih k (i + 1) (by omega) (by omega)
      rw [show ((i : Int) + 1) = ((i + 1 : Nat) : Int) by omega, this]
      congr 1
      conv => rhs; rw [List.drop_eq_getElem_cons hx]
      show _ = l.take i ++ (if l[i].f0 < p.f0 then l[i] :: insP (l.drop (i + 1)) p else _)
      rw [if_pos h, List.take_succ_eq_append_getElem hx, List.append_assoc]
      rfl
    · rw [if_neg h]
      simp only [Option.bind_some, Int.toNat_natCast, List.nil_append, List.length_nil]
      rw [if_pos (by omega), if_pos (by simp; omega), if_pos (by simp; omega), if_pos (by simp; omega)]
      congr 1
      conv => rhs; rw [List.drop_eq_getElem_cons hx]
      show _ = l.take i ++ (if l[i].f0 < p.f0 then _ else p :: l[i] :: l.drop (i + 1))
      rw [if_neg h, ← List.drop_eq_getElem_cons hx]
      simp
/-- The list behind a put. -/
def putP (l : List S37) (p : S37) : List S37 := if (firstOf l p.f0).isSome then l else insP l p
theorem put_f (l : List S37) (p : S37) (hn : l.length ≤ 100000) : supercargoref48_put.f (l.length + 1) l p.f0 p.f1 p.f2 = some (putP l p) := by
  unfold supercargoref48_put.f putP
  rw [find_f l p.f0 (by omega)]
  simp only [Option.bind_some]
  by_cases h : (firstOf l p.f0).isSome = true
  · have : ¬ placeFrom l p.f0 0 < 0 := fun h2 => by rw [place_none.1 h2] at h; cases h
    rw [if_pos (by omega), if_pos h]
  · have : placeFrom l p.f0 0 < 0 := place_none.2 (by simpa using h)
    rw [if_neg (by omega), if_neg h]
    have := put_l0 l p hn l.length (l.length + 1) 0 (by omega) (by omega)
    simpa using this

theorem firstOf_cons (q : S37) (l : List S37) (x : Int) : firstOf (q :: l) x = if q.f0 = x then some q else firstOf l x := by
  unfold firstOf
  rw [List.find?_cons]
  by_cases h : q.f0 = x
  · rw [if_pos h]; simp [h]
  · rw [if_neg h]
    have : (q.f0 == x) = false := by simpa using h
    rw [this]
theorem insP_first (l : List S37) (p : S37) (h : firstOf l p.f0 = none) (x : Int) : firstOf (insP l p) x = if p.f0 = x then some p else firstOf l x := by
  induction l with
  | nil => exact firstOf_cons p [] x
  | cons q l ih =>
    rw [firstOf_cons] at h
    have hq : ¬ q.f0 = p.f0 := fun e => by rw [if_pos e] at h; cases h
    rw [if_neg hq] at h
    unfold insP
    split
    · rw [firstOf_cons, ih h, firstOf_cons]
      by_cases e : p.f0 = x
      · subst e; rw [if_neg hq]; simp
      · simp [e]
    · rw [firstOf_cons]
theorem insP_mem (l : List S37) (p : S37) (x : S37) : x ∈ insP l p ↔ x = p ∨ x ∈ l := by
  induction l with
  | nil => simp [insP]
  | cons q l ih =>
    unfold insP
    split
    · rw [List.mem_cons, ih, List.mem_cons]
      constructor
      · rintro (h | h | h)
        · exact .inr (.inl h)
        · exact .inl h
        · exact .inr (.inr h)
      · rintro (h | h | h)
        · exact .inr (.inl h)
        · exact .inl h
        · exact .inr (.inr h)
    · simp
/-- The numbers rise. -/
def Rise (l : List S37) : Prop := l.Pairwise (fun p q => p.f0 < q.f0)
theorem insP_rise (l : List S37) (p : S37) (hr : Rise l) (h : firstOf l p.f0 = none) : Rise (insP l p) := by
  induction l with
  | nil => exact List.pairwise_singleton _ _
  | cons q l ih =>
    rw [firstOf_cons] at h
    have hq : ¬ q.f0 = p.f0 := fun e => by rw [if_pos e] at h; cases h
    rw [if_neg hq] at h
    obtain ⟨h1, h2⟩ := List.pairwise_cons.1 hr
    unfold insP
    split
    · rename_i hlt
      refine List.pairwise_cons.2 ⟨fun x hx => ?_, ih h2 h⟩
      rcases (insP_mem l p x).1 hx with rfl | hx
      · exact hlt
      · exact h1 x hx
    · rename_i hlt
      refine List.pairwise_cons.2 ⟨fun x hx => ?_, hr⟩
      rcases List.mem_cons.1 hx with rfl | hx
      · omega
      · have := h1 x hx
        omega
/-- A list whose numbers rise, and that holds at each number what f says. -/
def Book (l : List S37) (n : Nat) (f : Int → Option S37) : Prop := Rise l ∧ l.length ≤ n ∧ ∀ x, firstOf l x = f x
theorem Book.put {l : List S37} {n : Nat} {f : Int → Option S37} (h : Book l n f) (p : S37) : Book (putP l p) (n + 1) (fun x => (f x).or (if p.f0 = x then some p else none)) := by
  unfold putP
  by_cases hs : (firstOf l p.f0).isSome = true
  · rw [if_pos hs]
    refine ⟨h.1, by have := h.2.1; omega, fun x => ?_⟩
    show firstOf l x = (f x).or (if p.f0 = x then some p else none)
    rw [h.2.2]
    by_cases e : p.f0 = x
    · subst e
      rw [h.2.2] at hs
      obtain ⟨q, hq⟩ := Option.isSome_iff_exists.1 hs
      rw [hq]; rfl
    · rw [if_neg e]; simp
  · rw [if_neg hs]
    have hn : firstOf l p.f0 = none := by simpa using hs
    refine ⟨insP_rise l p h.1 hn, by rw [insP_len]; have := h.2.1; omega, fun x => ?_⟩
    show firstOf (insP l p) x = (f x).or (if p.f0 = x then some p else none)
    rw [insP_first l p hn, h.2.2]
    by_cases e : p.f0 = x
    · subst e
      rw [h.2.2] at hn
      rw [hn, if_pos rfl]; rfl
    · rw [if_neg e, if_neg e]; simp
theorem Book.congr {l : List S37} {n : Nat} {f g : Int → Option S37} (h : Book l n f) (e : ∀ x, f x = g x) : Book l n g := ⟨h.1, h.2.1, fun x => (h.2.2 x).trans (e x)⟩
theorem Book.first {l : List S37} {n : Nat} {a : List S37} {k : Nat} (h : Book l n (firstOf (a.take k))) (hk : k < a.length) : Book (putP l (rd_T37 a k)) (n + 1) (firstOf (a.take (k + 1))) :=
  (h.put _).congr fun x => (firstOf_snoc a k hk x).symm
theorem Book.second {l : List S37} {n : Nat} {a b : List S37} {k : Nat} (h : Book l n (fun x => (firstOf a x).or (firstOf (b.take k) x))) (hk : k < b.length) : Book (putP l (rd_T37 b k)) (n + 1) (fun x => (firstOf a x).or (firstOf (b.take (k + 1)) x)) :=
  (h.put _).congr fun x => by rw [firstOf_snoc b k hk x, Option.or_assoc]
theorem Book.whole {l : List S37} {n : Nat} {a b : List S37} {zs : List Int} (h : Book l n (fun x => (firstOf a x).or (firstOf b x))) (hz : Both a b zs) : l = zs.map (pick a b) := by
  have hr : (l.map (·.f0)).Pairwise (· < ·) := List.pairwise_map.2 h.1
  have e1 : l.map (·.f0) = zs := by
    refine sorted_eq (List.Pairwise.imp (fun {x y} h => by omega) hr) (List.Pairwise.imp (fun {x y} h => by omega) hr) hz.1 hz.2.1 (fun x => ?_)
    rw [hz.2.2]
    have hx : firstOf l x = (firstOf a x).or (firstOf b x) := h.2.2 x
    constructor
    · intro hm
      obtain ⟨p, hp, rfl⟩ := List.mem_map.1 hm
      cases h1 : firstOf a p.f0 with
      | some q => exact .inl rfl
      | none =>
        cases h2 : firstOf b p.f0 with
        | some q => exact .inr rfl
        | none =>
          rw [h1, h2] at hx
          exact absurd (List.find?_eq_none.1 hx p hp) (by simp)
    · intro hm
      cases h1 : firstOf l x with
      | none =>
        rw [h1] at hx
        cases h2 : firstOf a x <;> cases h3 : firstOf b x <;> simp [h2, h3] at hx hm
      | some q => exact List.mem_map.2 ⟨q, firstOf_mem h1, firstOf_f0 h1⟩
  have e2 : ∀ p ∈ l, firstOf l p.f0 = some p := by
    have hr2 := h.1
    clear h hr e1
    induction l with
    | nil => intro p hp; cases hp
    | cons q l ih =>
      obtain ⟨h1, h2⟩ := List.pairwise_cons.1 hr2
      intro p hp
      rw [firstOf_cons]
      rcases List.mem_cons.1 hp with rfl | hp
      · rw [if_pos rfl]
      · have := h1 p hp
        rw [if_neg (by omega)]
        exact ih h2 p hp
  have e3 : ∀ p ∈ l, pick a b p.f0 = p := fun p hp => by
    have h3 := e2 p hp
    rw [h.2.2] at h3
    replace h3 : (firstOf a p.f0).or (firstOf b p.f0) = some p := h3
    unfold pick
    cases h1 : firstOf a p.f0 with
    | some q => rw [h1] at h3; simpa using h3
    | none =>
      cases h2 : firstOf b p.f0 with
      | some q => rw [h1, h2] at h3; simpa using h3
      | none => rw [h1, h2] at h3; simp at h3
  rw [← e1, List.map_map]
  conv => lhs; rw [← List.map_id l]
  exact List.map_congr_left (fun p hp => (e3 p hp).symm)
theorem pick_swap {a b : List S37} (hu : ¬ ∃ x, UnlikeAt a b x) (x : Int) : pick b a x = pick a b x := by
  unfold pick
  cases h1 : firstOf a x with
  | none => cases h2 : firstOf b x <;> rfl
  | some p =>
    cases h2 : firstOf b x with
    | none => rfl
    | some q =>
      by_cases e : p = q
      · subst e; rfl
      · exact absurd ⟨x, p, q, h1, h2, e⟩ hu
theorem unlike_swap {a b : List S37} (hu : ¬ ∃ x, UnlikeAt a b x) : ¬ ∃ x, UnlikeAt b a x := fun ⟨x, p, q, h1, h2, h3⟩ => hu ⟨x, q, p, h2, h1, Ne.symm h3⟩
theorem both_swap {a b : List S37} {ys zs : List Int} (hy : Both b a ys) (hz : Both a b zs) : ys = zs :=
  sorted_eq hy.1 hy.2.1 hz.1 hz.2.1 (fun x => by rw [hy.2.2, hz.2.2]; exact Or.comm)
end Go.Proofs.Ytaogmbiepbhmoaa.A

/- Plain laws of first posts, what only gathers, what is mended. -/
import Derived.Test.YtaogmbiepbhmoaaMend
import Derived.Test.YtaogmbiepbhmoaaAwake
namespace Go.Proofs.Ytaogmbiepbhmoaa.A
open Go.RowKit ScKit Go.Proofs.YtaogmbiepbhmoaaW.PrintWords

theorem firstOf_mem {l : List S37} {x : Int} {p : S37} (h : firstOf l x = some p) : p ∈ l := List.mem_of_find?_eq_some h
theorem firstOf_f0 {l : List S37} {x : Int} {p : S37} (h : firstOf l x = some p) : p.f0 = x := by simpa using List.find?_some h
theorem pick_f0 {a b : List S37} {x : Int} (h : (firstOf a x).isSome = true ∨ (firstOf b x).isSome = true) : (pick a b x).f0 = x := by
  unfold pick
  rcases h1 : firstOf a x with _ | p
  · rcases h2 : firstOf b x with _ | q
    · rw [h1, h2] at h; simp at h
    · exact firstOf_f0 h2
  · exact firstOf_f0 h1
theorem pick_mem {a b : List S37} {x : Int} (h : (firstOf a x).isSome = true ∨ (firstOf b x).isSome = true) : pick a b x ∈ a ∨ pick a b x ∈ b := by
  unfold pick
  rcases h1 : firstOf a x with _ | p
  · rcases h2 : firstOf b x with _ | q
    · rw [h1, h2] at h; simp at h
    · exact .inr (firstOf_mem h2)
  · exact .inl (firstOf_mem h1)
theorem firstOf_map {f : Int → S37} {zs : List Int} (h : ∀ y ∈ zs, (f y).f0 = y) (x : Int) : firstOf (zs.map f) x = if x ∈ zs then some (f x) else none := by
  induction zs with
  | nil => simp [firstOf]
  | cons y zs ih =>
    have hy := h y List.mem_cons_self
    have ih := ih (fun z hz => h z (List.mem_cons_of_mem _ hz))
    unfold firstOf at ih ⊢
    rw [List.map_cons, List.find?_cons, hy]
    by_cases e : y = x
    · subst e; simp
    · have e1 : (y == x) = false := by simpa using e
      rw [e1]
      dsimp only
      rw [ih]
      simp [Ne.symm e]

/-- The numbers of what only gathers. -/
theorem onlyK_nums (a b : List S37) (k : Nat) (hk : k ≤ a.length) : ((onlyK a b k).map (·.f0)).Nodup ∧ ∀ x, x ∈ (onlyK a b k).map (·.f0) ↔ (firstOf (a.take k) x).isSome = true ∧ firstOf b x = none := by
  induction k with
  | zero => simp [onlyK, firstOf]
  | succ k ih =>
    obtain ⟨h1, h2⟩ := ih (by omega)
    have hs := firstOf_snoc a k (by omega)
    by_cases hb : firstOf b (rd_T37 a k).f0 = none
    · by_cases ha : firstOf (a.take k) (rd_T37 a k).f0 = none
      · rw [onlyK_yes hb ha, List.map_append]
        refine ⟨?_, fun x => ?_⟩
        · rw [List.nodup_append]
          refine ⟨h1, by simp, fun x hx y hy => ?_⟩
          simp at hy
          subst hy
          intro e
          subst e
          have := ((h2 _).1 hx).1
          rw [ha] at this
          cases this
        · rw [List.mem_append, h2, hs]
          by_cases e : (rd_T37 a k).f0 = x
          · subst e; simp [hb]
          · simp [e, Ne.symm e]
      · obtain ⟨q, hq⟩ := Option.ne_none_iff_exists'.1 ha
        rw [onlyK_no2 hq]
        refine ⟨h1, fun x => ?_⟩
        rw [h2, hs]
        by_cases e : (rd_T37 a k).f0 = x
        · subst e; simp [hq]
        · simp [e]
    · obtain ⟨q, hq⟩ := Option.ne_none_iff_exists'.1 hb
      rw [onlyK_no1 hq]
      refine ⟨h1, fun x => ?_⟩
      rw [h2, hs]
      by_cases e : (rd_T37 a k).f0 = x
      · subst e; simp [hq]
      · simp [e]
theorem only_nums (a b : List S37) : ((onlyK a b a.length).map (·.f0)).Nodup ∧ ∀ x, x ∈ (onlyK a b a.length).map (·.f0) ↔ (firstOf a x).isSome = true ∧ firstOf b x = none := by
  have := onlyK_nums a b a.length (Nat.le_refl _)
  rwa [List.take_length] at this
theorem only_len {a b c d : List S37} (h : ∀ x, ((firstOf a x).isSome = true ∧ firstOf b x = none) ↔ ((firstOf c x).isSome = true ∧ firstOf d x = none)) : (onlyK a b a.length).length = (onlyK c d c.length).length := by
  obtain ⟨h1, h2⟩ := only_nums a b
  obtain ⟨h3, h4⟩ := only_nums c d
  have := ((List.perm_ext_iff_of_nodup h1 h3).2 (fun x => by rw [h2, h4, h])).length_eq
  simpa using this
theorem only_nil {a b : List S37} (h : ∀ x, (firstOf a x).isSome = true → (firstOf b x).isSome = true) : onlyK a b a.length = [] := by
  obtain ⟨_, h2⟩ := only_nums a b
  rcases e : onlyK a b a.length with _ | ⟨p, l⟩
  · rfl
  · rw [e] at h2
    obtain ⟨h3, h4⟩ := (h2 p.f0).1 (by simp)
    have := h _ h3
    rw [h4] at this
    cases this

theorem pick_b {a b : List S37} (hu : ¬ ∃ x, UnlikeAt a b x) {x : Int} {q : S37} (h2 : firstOf b x = some q) : pick a b x = q := by
  unfold pick
  rcases h1 : firstOf a x with _ | p
  · rw [h2]; rfl
  · by_cases e : p = q
    · exact e
    · exact absurd ⟨x, p, q, h1, h2, e⟩ hu

section
variable {a b : List S37} {zs : List Int} (hz : Both a b zs)
include hz
theorem both_f0 : ∀ y ∈ zs, (pick a b y).f0 = y := fun y hy => pick_f0 ((hz.2.2 y).1 hy)
theorem firstL (x : Int) : firstOf (zs.map (pick a b)) x = if x ∈ zs then some (pick a b x) else none := firstOf_map (both_f0 hz) x
theorem someL (x : Int) : (firstOf (zs.map (pick a b)) x).isSome = true ↔ (firstOf a x).isSome = true ∨ (firstOf b x).isSome = true := by
  rw [firstL hz, ← hz.2.2]
  by_cases h : x ∈ zs <;> simp [h]
theorem noneL (x : Int) : firstOf (zs.map (pick a b)) x = none ↔ firstOf a x = none ∧ firstOf b x = none := by
  have := someL hz x
  cases h1 : firstOf (zs.map (pick a b)) x <;> cases h2 : firstOf a x <;> cases h3 : firstOf b x <;> simp_all
theorem Sm_L (ha : Sm a) (hb : Sm b) (hl : zs.length ≤ 1000) : Sm (zs.map (pick a b)) := by
  refine ⟨by simpa using hl, fun p hp => ?_⟩
  obtain ⟨x, hx, rfl⟩ := List.mem_map.1 hp
  rcases pick_mem ((hz.2.2 x).1 hx) with h | h
  · exact ha.2 _ h
  · exact hb.2 _ h
theorem pickL_a {x : Int} (hx : x ∈ zs) : pick (zs.map (pick a b)) a x = pick a b x := by
  have : firstOf (zs.map (pick a b)) x = some (pick a b x) := by rw [firstL hz, if_pos hx]
  unfold pick at this ⊢
  rw [this]; rfl
theorem likeL_a : ¬ ∃ x, UnlikeAt (zs.map (pick a b)) a x := by
  rintro ⟨x, p, q, h1, h2, h3⟩
  rw [firstL hz] at h1
  split at h1
  · have : pick a b x = q := by unfold pick; rw [h2]; rfl
    rw [this] at h1
    exact h3 (by injection h1 with h; exact h.symm)
  · cases h1
theorem bothL_a {ys : List Int} (hy : Both (zs.map (pick a b)) a ys) : ys = zs := by
  refine sorted_eq hy.1 hy.2.1 hz.1 hz.2.1 (fun x => ?_)
  rw [hy.2.2, someL hz, hz.2.2]
  constructor
  · rintro (h | h)
    · exact h
    · exact .inl h
  · exact .inl
theorem againL {ys : List Int} (hy : Both (zs.map (pick a b)) a ys) : ys.map (pick (zs.map (pick a b)) a) = zs.map (pick a b) := by
  have e := bothL_a hz hy
  subst e
  exact List.map_congr_left (fun x hx => pickL_a hz hx)
theorem bothb_L {ys : List Int} (hy : Both b (zs.map (pick a b)) ys) : ys = zs := by
  refine sorted_eq hy.1 hy.2.1 hz.1 hz.2.1 (fun x => ?_)
  rw [hy.2.2, someL hz, hz.2.2]
  constructor
  · rintro (h | h)
    · exact .inr h
    · exact h
  · exact .inr
variable (hu : ¬ ∃ x, UnlikeAt a b x)
include hu
theorem likeb_L : ¬ ∃ x, UnlikeAt b (zs.map (pick a b)) x := by
  rintro ⟨x, q, p, h1, h2, h3⟩
  rw [firstL hz] at h2
  split at h2
  · rw [pick_b hu h1] at h2
    exact h3 (by injection h2)
  · cases h2
theorem likeL_b : ¬ ∃ x, UnlikeAt (zs.map (pick a b)) b x := by
  rintro ⟨x, p, q, h1, h2, h3⟩
  exact likeb_L hz hu ⟨x, q, p, h2, h1, Ne.symm h3⟩
theorem pickb_L {x : Int} (hx : x ∈ zs) : pick b (zs.map (pick a b)) x = pick a b x := by
  have h0 : firstOf (zs.map (pick a b)) x = some (pick a b x) := by rw [firstL hz, if_pos hx]
  rcases h1 : firstOf b x with _ | q
  · show (firstOf b x).getD ((firstOf (zs.map (pick a b)) x).getD z37) = _
    rw [h1, h0]; rfl
  · show (firstOf b x).getD ((firstOf (zs.map (pick a b)) x).getD z37) = _
    rw [h1, pick_b hu h1]; rfl
theorem otherL {ys : List Int} (hy : Both b (zs.map (pick a b)) ys) : ys.map (pick b (zs.map (pick a b))) = zs.map (pick a b) := by
  have e := bothb_L hz hy
  subst e
  exact List.map_congr_left (fun x hx => pickb_L hz hu hx)
end

/-- Are posts few, and short? -/
def Few (l : List S37) : Prop := l.length ≤ 20 ∧ ∀ p ∈ l, p.f2.length ≤ 20 ∧ p.f1.size ≤ 300
end Go.Proofs.Ytaogmbiepbhmoaa.A

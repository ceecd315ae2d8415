/- The document's fields and types of fields, and its test of two rows of texts: in plain Lean, out of the printed functions. -/
import Derived.Test.YtlgcceojnbobeaaDoorType
import Derived.Test.YtlgcceojnbobeaaDoorAx8
namespace Go.Proofs.YtlgcceojnbobeaaDoor.A
open Go.RowKit Go.Lib Go.Proofs.YtlgcceojnbobeaaDoorW.PrintWords
set_option linter.unusedVariables false

theorem wrap_up (i : Nat) (h : i ≤ 1000000000000) : wrap64 ((i : Int) + 1) = ((i + 1 : Nat) : Int) := by unfold wrap64; omega
theorem tlist {a b : ByteArray} : a.toList = b.toList ↔ a = b :=
  ⟨fun h => by rw [← tx_of a, ← tx_of b, ← ByteArray.toList_eq, ← ByteArray.toList_eq, h], fun h => by rw [h]⟩
/-! ### in -/
theorem in_nil (x : ByteArray) : containsS [] x = false := rfl
theorem in_cons_eq (x : ByteArray) (l : List ByteArray) : containsS (x :: l) x = true := (containsS_iff _ _).2 (by simp)
theorem in_cons_ne {x y : ByteArray} (l : List ByteArray) (h : y ≠ x) : containsS (y :: l) x = containsS l x := by
  rw [Bool.eq_iff_iff, containsS_iff, containsS_iff, List.mem_cons]
  exact ⟨fun h2 => h2.resolve_left (fun e => h e.symm), .inr⟩
theorem in_loop (l : List ByteArray) (hl : l.length ≤ 1000000) (x : ByteArray) (suf : List ByteArray) : ∀ i : Nat, l.drop i = suf → Ev (fun k => supercargoref29_in.l0 k l x (i : Int)) (containsS suf x) := by
  induction suf with
  | nil =>
    intro i h
    have hi := List.drop_eq_nil_iff.1 h
    refine Ev.step (f := fun _ => some false) (fun k => ?_) (Ev.now false)
    simp only [supercargoref29_in.l0]
    rw [if_neg (by omega)]
  | cons y suf ih =>
    intro i h
    have hi : i < l.length := by
      rcases Nat.lt_or_ge i l.length with h1 | h1
      · exact h1
      · rw [List.drop_eq_nil_of_le h1] at h; cases h
    rw [List.drop_eq_getElem_cons hi] at h
    injection h with h2 h3
    have hr : rdOf ByteArray.empty l (i : Int) = y := by simp [rdOf, hi, h2]
    by_cases c : y = x
    · refine Ev.step (f := fun _ => some true) (fun k => ?_) (by rw [c, in_cons_eq]; exact Ev.now true)
      simp only [supercargoref29_in.l0]
      rw [if_pos (by omega), if_pos (by omega), hr, if_pos (tlist.2 c)]
    · rw [in_cons_ne suf c]
      refine Ev.step (fun k => ?_) (ih (i + 1) h3)
      simp only [supercargoref29_in.l0]
      rw [if_pos (by omega), if_pos (by omega), hr, if_neg (fun h => c (tlist.1 h)), wrap_up i (by omega)]
theorem in_ev (l : List ByteArray) (hl : l.length ≤ 1000000) (x : ByteArray) : Ev (fun k => supercargoref29_in.f k l x) (containsS l x) := in_loop l hl x l 0 rfl
/-! ### Fields -/
theorem fields_six (k : Int) (hk : Kind6 k) : supercargoref29_Fields.f k = some (FP k) := by
  rcases hk with rfl | rfl | rfl | rfl | rfl | rfl <;> decide +kernel
theorem fields_len (k : Int) (hk : Kind6 k) : (FP k).length ≤ 9 := by
  rcases hk with rfl | rfl | rfl | rfl | rfl | rfl <;> decide +kernel
theorem fields_none (k : Int) (hk : ¬ Kind6 k) : supercargoref29_Fields.f k = some [] := by
  unfold Kind6 at hk
  unfold supercargoref29_Fields.f
  rw [if_neg (by omega), if_neg (by omega), if_neg (by omega), if_neg (by omega), if_neg (by omega), if_neg (by omega)]
/-! ### Type -/
theorem type_end (x : ByteArray) : Ev (fun k => supercargoref29_Type.l0 k x 6) (-1) := by
  refine Ev.step (f := fun _ => some (-1)) (fun k => ?_) (Ev.now _)
  simp only [supercargoref29_Type.l0]
  rw [if_neg (by decide)]
theorem type_step (x : ByteArray) (j : Nat) (hj : j < 6) (r : Int) (h : Ev (fun k => supercargoref29_Type.l0 k x ((j + 1 : Nat) : Int)) r) : Ev (fun k => supercargoref29_Type.l0 k x (j : Int)) (if hasP (j : Int) x then 0 else r) := by
  have hk : Kind6 (j : Int) := by unfold Kind6; omega
  refine Ev.step (f := fun k => (supercargoref29_in.f k (FP j) x).bind fun t203 => (if t203 = true then (some 0) else (supercargoref29_Type.l0 k x ((j + 1 : Nat) : Int)))) (fun k => ?_) (Ev.bind (in_ev (FP j) (by have := fields_len j hk; omega) x) ?_)
  · simp only [supercargoref29_Type.l0]
    rw [if_pos (by omega), fields_six j hk, Option.bind_some, wrap_up j (by omega)]
  · show Ev (fun k => if containsS (FP j) x = true then _ else _) (if containsS (FP j) x = true then 0 else r)
    by_cases c : containsS (FP j) x = true
    · rw [if_pos c]
      exact Ev.congr (fun k => by rw [if_pos c]) (Ev.now _)
    · rw [if_neg c]
      exact Ev.congr (fun k => by rw [if_neg c]) h
theorem type_loop (x : ByteArray) : Ev (fun k => supercargoref29_Type.l0 k x 0) (if knownK 6 x then 0 else -1) := by
  have h5 := type_step x 5 (by omega) _ (type_end x)
  have h4 := type_step x 4 (by omega) _ h5
  have h3 := type_step x 3 (by omega) _ h4
  have h2 := type_step x 2 (by omega) _ h3
  have h1 := type_step x 1 (by omega) _ h2
  have h0 := type_step x 0 (by omega) _ h1
  have e : (if knownK 6 x then (0 : Int) else -1) = (if hasP ((0 : Nat) : Int) x then 0 else if hasP ((1 : Nat) : Int) x then 0 else if hasP ((2 : Nat) : Int) x then 0 else if hasP ((3 : Nat) : Int) x then 0 else if hasP ((4 : Nat) : Int) x then 0 else if hasP ((5 : Nat) : Int) x then 0 else -1) := by
    rw [show knownK 6 x = ((((((false || hasP ((0 : Nat) : Int) x) || hasP ((1 : Nat) : Int) x) || hasP ((2 : Nat) : Int) x) || hasP ((3 : Nat) : Int) x) || hasP ((4 : Nat) : Int) x) || hasP ((5 : Nat) : Int) x) by rw [known_succ, known_succ, known_succ, known_succ, known_succ, known_succ]; rfl]
    generalize hasP ((0 : Nat) : Int) x = a0
    generalize hasP ((1 : Nat) : Int) x = a1
    generalize hasP ((2 : Nat) : Int) x = a2
    generalize hasP ((3 : Nat) : Int) x = a3
    generalize hasP ((4 : Nat) : Int) x = a4
    generalize hasP ((5 : Nat) : Int) x = a5
    revert a0 a1 a2 a3 a4 a5
    decide
  rw [e]
  exact h0
theorem type_sum : typeP sumT = 1 := by decide +kernel
theorem type_boxes : typeP boxesT = 1 := by decide +kernel
theorem type_term : typeP termT = 1 := by decide +kernel
theorem tof {x : ByteArray} {l : List UInt8} : x.toList = l ↔ x = tx l :=
  ⟨fun h => by rw [← h, ByteArray.toList_eq, tx_of], fun h => by rw [h, ByteArray.toList_eq, tl_tx]⟩
theorem type_ev (x : ByteArray) : Ev (fun k => supercargoref29_Type.f k x) (typeP x) := by
  unfold supercargoref29_Type.f
  have yes : Ev (fun k => supercargoref29_Type.j0 k x true) 1 := by
    refine Ev.step (f := fun _ => some 1) (fun k => ?_) (Ev.now _)
    simp only [supercargoref29_Type.j0]
    rw [if_pos trivial]
  by_cases c1 : x = sumT
  · have e : typeP x = 1 := by rw [c1]; exact type_sum
    rw [e]
    exact Ev.congr (fun k => by rw [if_pos (tof.2 c1)]) yes
  · refine Ev.congr (fun k => by rw [if_neg (fun h => c1 (tof.1 h))]) ?_
    by_cases c2 : x = boxesT
    · have e : typeP x = 1 := by rw [c2]; exact type_boxes
      rw [e]
      exact Ev.congr (fun k => by rw [if_pos (tof.2 c2)]) yes
    · refine Ev.congr (fun k => by rw [if_neg (fun h => c2 (tof.1 h))]) ?_
      by_cases c3 : x = termT
      · have e : typeP x = 1 := by rw [c3]; exact type_term
        rw [e, show (x.toList == ([116, 101, 114, 109] : List UInt8)) = true from eqL c3]
        exact yes
      · rw [show (x.toList == ([116, 101, 114, 109] : List UInt8)) = false from neL c3]
        by_cases c4 : x = issuedT
        · have e : typeP x = 2 := by rw [c4]; exact type_issued
          rw [e]
          refine Ev.step (f := fun _ => some 2) (fun k => ?_) (Ev.now _)
          simp only [supercargoref29_Type.j0]
          rw [if_neg (by decide), if_pos (tof.2 c4)]
        · have e : typeP x = if knownK 6 x then 0 else -1 := by
            unfold typeP
            cases knownK 6 x with
            | false => rfl
            | true => rw [if_neg (by decide), if_neg (by rintro (h | h | h) <;> contradiction), if_neg c4]; rfl
          rw [e]
          refine Ev.step (fun k => ?_) (type_loop x)
          simp only [supercargoref29_Type.j0]
          rw [if_neg (by decide), if_neg (fun h => c4 (tof.1 h))]
/-! ### Texts -/
theorem texts_loop (l : List ByteArray) (hl : l.length ≤ 1000000) (d : Nat) : ∀ i : Nat, i ≤ l.length → l.length - i = d → Ev (fun k => supercargoref17_Texts.l0 k l l (i : Int)) true := by
  induction d with
  | zero =>
    intro i h hd
    refine Ev.step (f := fun _ => some true) (fun k => ?_) (Ev.now true)
    simp only [supercargoref17_Texts.l0]
    rw [if_neg (by omega)]
  | succ d ih =>
    intro i h hd
    refine Ev.step (fun k => ?_) (ih (i + 1) (by omega) (by omega))
    simp only [supercargoref17_Texts.l0]
    rw [if_pos (by omega), if_pos (by omega), if_pos (by omega), if_pos trivial, wrap_up i (by omega)]
theorem texts_ev (l : List ByteArray) (hl : l.length ≤ 1000000) : Ev (fun k => supercargoref17_Texts.f k l l) true := by
  unfold supercargoref17_Texts.f
  refine Ev.congr (fun k => by rw [if_pos rfl]) ?_
  exact texts_loop l hl l.length 0 (by omega) (by omega)
end Go.Proofs.YtlgcceojnbobeaaDoor.A

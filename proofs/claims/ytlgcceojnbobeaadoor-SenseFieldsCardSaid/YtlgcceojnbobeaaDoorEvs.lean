/- What the printed functions on trees answer. -/
import Derived.Test.YtlgcceojnbobeaaDoorTurnP
import Derived.Test.YtlgcceojnbobeaaDoorAx1
import Derived.Test.YtlgcceojnbobeaaDoorAx2
import Derived.Test.YtlgcceojnbobeaaDoorAx3
import Derived.Test.YtlgcceojnbobeaaDoorAx4
import Derived.Test.YtlgcceojnbobeaaDoorAx5
namespace Go.Proofs.YtlgcceojnbobeaaDoor.A
open Go.RowKit Go.Shelf Go.Proofs.YtlgcceojnbobeaaDoorW.PrintWords Go.Proofs.YtlgcceojnbobeaaDoorW.PrintLast Go.Proofs.YtlgcceojnbobeaaDoorW.PrintMore
set_option linter.unusedVariables false
set_option linter.unusedSimpArgs false

theorem w64 (n : Int) (h : -9223372036854775808 ≤ n ∧ n ≤ 9223372036854775807) : wrap64 n = n := by unfold wrap64; omega
theorem drop_cons {l : List S24} {i : Nat} {y : S24} {suf : List S24} (h : l.drop i = y :: suf) : i < l.length ∧ rd_T24 l (i : Int) = y ∧ l.drop (i + 1) = suf ∧ y ∈ l := by
  have hi : i < l.length := by
    rcases Nat.lt_or_ge i l.length with hi | hi
    · exact hi
    · rw [List.drop_eq_nil_of_le hi] at h; cases h
  rw [List.drop_eq_getElem_cons hi] at h
  injection h with h1 h2
  exact ⟨hi, by simp [rd_T24, hi, h1], h2, h1 ▸ List.getElem_mem hi⟩
theorem drop_nil {l : List S24} {i : Nat} (h : l.drop i = []) : l.length ≤ i := List.drop_eq_nil_iff.1 h
/-! ### size -/
def SizeIs (x : S24) (b r : Int) : Prop := 1 ≤ r ∧ r ≤ b + 1 ∧ (r ≤ b → (nodes x : Int) = r)
theorem size_loop (l : List S24) (b : Int) (hb : b ≤ 30) (k p n : Int) (f t : ByteArray) (ih : ∀ y ∈ l, ∀ b, 0 ≤ b → b ≤ 30 → ∃ r, Ev (fun k => supercargolaw29_size.f k y.f0 y.f1 y.f2 y.f3 y.f4 y.f5 b) r ∧ SizeIs y b r) : ∀ (suf : List S24) (i : Nat) (a : Int), l.drop i = suf → (i : Int) + 1 ≤ a → a ≤ b + 1 →
    ∃ r, Ev (fun q => supercargolaw29_size.l0 q b a (i : Int) k p f t n l) r ∧ a ≤ r ∧ r ≤ b + 1 ∧ (r ≤ b → a + (nodesL suf : Int) = r) := by
  intro suf
  induction suf with
  | nil =>
    intro i a h h1 h2
    have hl := drop_nil h
    refine ⟨a, Ev.step (f := fun _ => some a) (fun q => ?_) (Ev.now a), Int.le_refl _, h2, fun _ => by simp [nodesL]⟩
    simp only [supercargolaw29_size.l0]
    rw [if_neg (by omega)]
  | cons y suf ihs =>
    intro i a h h1 h2
    obtain ⟨hi, hy, hd, hm⟩ := drop_cons h
    by_cases hab : a ≤ b
    · obtain ⟨r, hr, hr1, hr2, hr3⟩ := ih y hm (b - a) (by omega) (by omega)
      have e1 : wrap64 (b - a) = b - a := w64 _ (by omega)
      have e2 : wrap64 (a + r) = a + r := w64 _ (by omega)
      have e3 : wrap64 ((i : Int) + 1) = ((i + 1 : Nat) : Int) := by rw [w64 _ (by omega)]; omega
      obtain ⟨r1, hr4, hr5, hr6, hr7⟩ := ihs (i + 1) (a + r) hd (by omega) (by omega)
      refine ⟨r1, Ev.step (f := fun q => (supercargolaw29_size.f q y.f0 y.f1 y.f2 y.f3 y.f4 y.f5 (b - a)).bind fun u => supercargolaw29_size.l0 q b (wrap64 (a + u)) ((i + 1 : Nat) : Int) k p f t n l) (fun q => ?_) (Ev.bind hr (by rw [e2]; exact hr4)), by omega, hr6, fun hb => ?_⟩
      · simp only [supercargolaw29_size.l0]
        rw [if_pos (by omega), if_pos hab, if_pos (by omega), hy, e1, e3]
      · have := hr7 hb
        have := hr3 (by omega)
        simp only [nodesL]
        omega
    · refine ⟨a, Ev.step (f := fun _ => some a) (fun q => ?_) (Ev.now a), Int.le_refl _, h2, fun hb => absurd hb hab⟩
      simp only [supercargolaw29_size.l0]
      rw [if_pos (by omega), if_neg hab]
theorem size_ev (N : Nat) : ∀ x : S24, nodes x ≤ N → ∀ b, 0 ≤ b → b ≤ 30 → ∃ r, Ev (fun k => supercargolaw29_size.f k x.f0 x.f1 x.f2 x.f3 x.f4 x.f5 b) r ∧ SizeIs x b r := by
  induction N with
  | zero => intro x h; have := nodes_pos x; omega
  | succ N ih =>
    intro x h b h0 h30
    obtain ⟨r, h1, h2, h3, h4⟩ := size_loop x.f5 b h30 x.f0 x.f1 x.f4 x.f2 x.f3 (fun y hy => ih y (by rw [nodes_eq] at h; have := nodesL_mem hy; omega)) x.f5 0 1 rfl (by omega) (by omega)
    refine ⟨r, Ev.step (fun q => ?_) h1, h2, h3, fun hb => by have := h4 hb; rw [nodes_eq]; omega⟩
    simp only [supercargolaw29_size.f]
    rfl
end Go.Proofs.YtlgcceojnbobeaaDoor.A

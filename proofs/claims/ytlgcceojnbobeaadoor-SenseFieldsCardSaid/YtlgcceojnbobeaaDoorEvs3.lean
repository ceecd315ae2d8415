/- What Many, Atoms and wide answer. -/
import Derived.Test.YtlgcceojnbobeaaDoorEvs2
namespace Go.Proofs.YtlgcceojnbobeaaDoor.A
open Go.RowKit Go.Shelf Go.Proofs.YtlgcceojnbobeaaDoorW.PrintWords Go.Proofs.YtlgcceojnbobeaaDoorW.PrintLast Go.Proofs.YtlgcceojnbobeaaDoorW.PrintMore
set_option linter.unusedVariables false
set_option linter.unusedSimpArgs false

theorem two_end (xs : List Int) (hx : xs.length ≤ 1000) (K p n : Int) (f t : ByteArray) (l : List S24) : ∀ (m i : Nat) (a : Int), i + m = xs.length → ∃ r, Ev (fun q => supercargoref29_Many.l1 q a xs (xs.length : Int) (i : Int) K p f t n l) r := by
  intro m
  induction m with
  | zero =>
    intro i a h
    refine ⟨a, Ev.step (f := fun _ => some a) (fun q => ?_) (Ev.now _)⟩
    simp only [supercargoref29_Many.l1]
    rw [if_neg (by omega)]
  | succ m ih =>
    intro i a h
    have e3 : wrap64 ((i : Int) + 1) = ((i + 1 : Nat) : Int) := by rw [w64 _ (by omega)]; omega
    by_cases hK : K = 0
    · by_cases hb : wrap64 (a * rd xs (i : Int)) > 4096
      · refine ⟨4097, Ev.step (f := fun _ => some 4097) (fun q => ?_) (Ev.now _)⟩
        simp only [supercargoref29_Many.l1]
        rw [if_pos (by omega), if_pos (by omega), if_pos (by omega), if_pos hK, if_pos hb]
      · obtain ⟨r, hr⟩ := ih (i + 1) (wrap64 (a * rd xs (i : Int))) (by omega)
        refine ⟨r, Ev.step (fun q => ?_) hr⟩
        simp only [supercargoref29_Many.l1]
        rw [if_pos (by omega), if_pos (by omega), if_pos (by omega), if_pos hK, if_neg hb, e3]
    · by_cases hb : wrap64 (a + rd xs (i : Int)) > 4096
      · refine ⟨4097, Ev.step (f := fun _ => some 4097) (fun q => ?_) (Ev.now _)⟩
        simp only [supercargoref29_Many.l1]
        rw [if_pos (by omega), if_pos (by omega), if_pos (by omega), if_neg hK, if_pos hb]
      · obtain ⟨r, hr⟩ := ih (i + 1) (wrap64 (a + rd xs (i : Int))) (by omega)
        refine ⟨r, Ev.step (fun q => ?_) hr⟩
        simp only [supercargoref29_Many.l1]
        rw [if_pos (by omega), if_pos (by omega), if_pos (by omega), if_neg hK, if_neg hb, e3]
theorem mid_ends (xs : List Int) (hx : xs.length ≤ 1000) (a : Int) (b : Bool) (K p n : Int) (f t : ByteArray) (l : List S24) : ∃ r, Ev (fun q => supercargoref29_Many.j2 q a xs b K p f t n l) r := by
  cases b
  · obtain ⟨r, hr⟩ := two_end xs hx K p n f t l xs.length 0 a (by omega)
    refine ⟨r, Ev.step (fun q => ?_) hr⟩
    simp only [supercargoref29_Many.j2]
    rw [if_neg (by decide)]
    rfl
  · refine ⟨0, Ev.step (f := fun _ => some 0) (fun q => ?_) (Ev.now _)⟩
    simp only [supercargoref29_Many.j2]
    rw [if_pos trivial]
theorem one_end (l : List S24) (hl : l.length ≤ 30) (a K p n : Int) (f t : ByteArray) (ih : ∀ y ∈ l, ∃ r, Ev (fun k => supercargoref29_Many.f k y.f0 y.f1 y.f2 y.f3 y.f4 y.f5) r) : ∀ (suf : List S24) (i : Nat) (b : Bool) (xs : List Int), l.drop i = suf → xs.length ≤ i → i ≤ l.length →
    ∃ r, Ev (fun q => supercargoref29_Many.l0 q a b xs (i : Int) K p f t n l) r := by
  intro suf
  induction suf with
  | nil =>
    intro i b xs h hx hi
    have hl := drop_nil h
    by_cases hK : K = 0
    · obtain ⟨r, hr⟩ := mid_ends xs (by omega) a b K p n f t l
      refine ⟨r, Ev.step (fun q => ?_) hr⟩
      simp only [supercargoref29_Many.l0]
      rw [if_neg (by omega), if_pos hK]
    · obtain ⟨r, hr⟩ := mid_ends xs (by omega) a false K p n f t l
      refine ⟨r, Ev.step (fun q => ?_) hr⟩
      simp only [supercargoref29_Many.l0]
      rw [if_neg (by omega), if_neg hK]
  | cons y suf ihs =>
    intro i b xs h hx hi'
    obtain ⟨hi, hy, hd, hm⟩ := drop_cons h
    obtain ⟨v, hv⟩ := ih y hm
    have e3 : wrap64 ((i : Int) + 1) = ((i + 1 : Nat) : Int) := by rw [w64 _ (by omega)]; omega
    by_cases hb : v > 4096
    · refine ⟨4097, Ev.step (f := fun q => (supercargoref29_Many.f q y.f0 y.f1 y.f2 y.f3 y.f4 y.f5).bind fun u => (if u > 4096 then (some 4097) else (if b = true then (if xs.length < 17592186044416 then (supercargoref29_Many.l0 q a true (xs ++ [u]) ((i + 1 : Nat) : Int) K p f t n l) else (none)) else (if xs.length < 17592186044416 then (supercargoref29_Many.l0 q a (u == 0) (xs ++ [u]) ((i + 1 : Nat) : Int) K p f t n l) else (none))))) (fun q => ?_) (Ev.bind hv ?_)⟩
      · simp only [supercargoref29_Many.l0]
        rw [if_pos (by omega), if_pos (by omega), hy, e3]
      · simp only [if_pos hb]
        exact Ev.now _
    · have hxl : xs.length < 17592186044416 := by omega
      cases b
      · obtain ⟨r, hr⟩ := ihs (i + 1) (v == 0) (xs ++ [v]) hd (by simp; omega) hi
        refine ⟨r, Ev.step (f := fun q => (supercargoref29_Many.f q y.f0 y.f1 y.f2 y.f3 y.f4 y.f5).bind fun u => (if u > 4096 then (some 4097) else (if false = true then (if xs.length < 17592186044416 then (supercargoref29_Many.l0 q a true (xs ++ [u]) ((i + 1 : Nat) : Int) K p f t n l) else (none)) else (if xs.length < 17592186044416 then (supercargoref29_Many.l0 q a (u == 0) (xs ++ [u]) ((i + 1 : Nat) : Int) K p f t n l) else (none))))) (fun q => ?_) (Ev.bind hv ?_)⟩
        · simp only [supercargoref29_Many.l0]
          rw [if_pos (by omega), if_pos (by omega), hy, e3]
        · refine Ev.congr (fun q => ?_) hr
          rw [if_neg hb, if_neg (by decide), if_pos hxl]
      · obtain ⟨r, hr⟩ := ihs (i + 1) true (xs ++ [v]) hd (by simp; omega) hi
        refine ⟨r, Ev.step (f := fun q => (supercargoref29_Many.f q y.f0 y.f1 y.f2 y.f3 y.f4 y.f5).bind fun u => (if u > 4096 then (some 4097) else (if true = true then (if xs.length < 17592186044416 then (supercargoref29_Many.l0 q a true (xs ++ [u]) ((i + 1 : Nat) : Int) K p f t n l) else (none)) else (if xs.length < 17592186044416 then (supercargoref29_Many.l0 q a (u == 0) (xs ++ [u]) ((i + 1 : Nat) : Int) K p f t n l) else (none))))) (fun q => ?_) (Ev.bind hv ?_)⟩
        · simp only [supercargoref29_Many.l0]
          rw [if_pos (by omega), if_pos (by omega), hy, e3]
        · refine Ev.congr (fun q => ?_) hr
          rw [if_neg hb, if_pos rfl, if_pos hxl]
theorem Many_ev (N : Nat) (hN : N ≤ 30) : ∀ x : S24, nodes x ≤ N → ∃ r, Ev (fun k => supercargoref29_Many.f k x.f0 x.f1 x.f2 x.f3 x.f4 x.f5) r := by
  induction N with
  | zero => intro x h; have := nodes_pos x; omega
  | succ N ih =>
    intro x h
    have hn := nodes_eq x
    have hl := len_nodes x.f5
    have hJ : ∀ b, ∃ r, Ev (fun q => supercargoref29_Many.j0 q b x.f0 x.f1 x.f2 x.f3 x.f4 x.f5) r := fun b => by
      cases b
      · obtain ⟨r, hr⟩ := one_end x.f5 (by omega) (wrap64 (1 - x.f0)) x.f0 x.f1 x.f4 x.f2 x.f3 (fun y hy => ih (by omega) y (by have := nodesL_mem hy; omega)) x.f5 0 false [] rfl (Nat.le_refl _) (Nat.zero_le _)
        refine ⟨r, Ev.step (fun q => ?_) hr⟩
        simp only [supercargoref29_Many.j0]
        rw [if_neg (by decide)]
        rfl
      · refine ⟨1, Ev.step (f := fun _ => some 1) (fun q => ?_) (Ev.now _)⟩
        simp only [supercargoref29_Many.j0]
        rw [if_pos trivial]
    by_cases h0 : x.f0 = 0
    · obtain ⟨r, hr⟩ := hJ false
      refine ⟨r, Ev.step (fun q => ?_) hr⟩
      simp only [supercargoref29_Many.f]
      rw [if_pos h0]
    · obtain ⟨r, hr⟩ := hJ (x.f0 != 1)
      refine ⟨r, Ev.step (fun q => ?_) hr⟩
      simp only [supercargoref29_Many.f]
      rw [if_neg h0]
/-! ### Atoms -/
mutual
def strs : S24 → Nat
  | ⟨_, _, f, t, _, l⟩ => max (f.size + t.size) (strsL l)
def strsL : List S24 → Nat
  | [] => 0
  | x :: l => max (strs x) (strsL l)
end
theorem strs_eq (x : S24) : strs x = max (x.f2.size + x.f3.size) (strsL x.f5) := by cases x; simp only [strs]
def AtomsIs (x : S24) : Prop := ∃ r, Ev (fun k => supercargoref29_Atoms.f k x.f0 x.f1 x.f2 x.f3 x.f4 x.f5) r ∧ r.length ≤ nodes x ∧ (∀ row ∈ casesP x, ∀ c ∈ row, ∃ a ∈ r, nCore a = c) ∧ (∀ a ∈ r, a.f2.size + a.f3.size ≤ strs x)
theorem atoms_loop (l : List S24) (K p n : Int) (f t : ByteArray) (hl : l.length ≤ 30) (ih : ∀ y ∈ l, AtomsIs y) : ∀ (suf : List S24) (i : Nat) (acc : List S24), l.drop i = suf → acc.length + nodesL suf ≤ 1000 →
    ∃ r, Ev (fun q => supercargoref29_Atoms.l0 q acc (i : Int) K p f t n l) (acc ++ r) ∧ r.length ≤ nodesL suf ∧ (∀ y ∈ suf, ∀ row ∈ casesP y, ∀ c ∈ row, ∃ a ∈ r, nCore a = c) ∧ (∀ a ∈ r, a.f2.size + a.f3.size ≤ strsL suf) := by
  intro suf
  induction suf with
  | nil =>
    intro i acc h ha
    have hl := drop_nil h
    refine ⟨[], Ev.step (f := fun _ => some (acc ++ [])) (fun q => ?_) (Ev.now _), Nat.zero_le _, fun y hy => by simp at hy, fun a ha => by simp at ha⟩
    simp only [supercargoref29_Atoms.l0]
    rw [if_neg (by omega), List.append_nil]
  | cons y suf ihs =>
    intro i acc h ha
    obtain ⟨hi, hy, hd, hm⟩ := drop_cons h
    obtain ⟨v, hv, v1, v2, v3⟩ := ih y hm
    have e3 : wrap64 ((i : Int) + 1) = ((i + 1 : Nat) : Int) := by rw [w64 _ (by omega)]; omega
    simp only [nodesL] at ha
    obtain ⟨r, hr, r1, r2, r3⟩ := ihs (i + 1) (acc ++ v) hd (by rw [List.length_append]; omega)
    refine ⟨v ++ r, Ev.step (f := fun q => (supercargoref29_Atoms.f q y.f0 y.f1 y.f2 y.f3 y.f4 y.f5).bind fun u => (if acc.length + u.length < 1759218604441 then (supercargoref29_Atoms.l0 q (acc ++ u) ((i + 1 : Nat) : Int) K p f t n l) else (none))) (fun q => ?_) (Ev.bind hv ?_), ?_, ?_, ?_⟩
    · simp only [supercargoref29_Atoms.l0]
      rw [if_pos (by omega), if_pos (by omega), hy, e3]
    · rw [← List.append_assoc]
      refine Ev.congr (fun q => ?_) hr
      rw [if_pos (by omega)]
    · rw [List.length_append]; simp only [nodesL]; omega
    · intro z hz row hrow c hc
      rcases List.mem_cons.1 hz with rfl | hz
      · obtain ⟨a, ha, e⟩ := v2 row hrow c hc
        exact ⟨a, List.mem_append.2 (.inl ha), e⟩
      · obtain ⟨a, ha, e⟩ := r2 z hz row hrow c hc
        exact ⟨a, List.mem_append.2 (.inr ha), e⟩
    · intro a ha
      simp only [strsL]
      rcases List.mem_append.1 ha with ha | ha
      · have := v3 a ha; omega
      · have := r3 a ha; omega
theorem mem_anyP {r : List Core} : ∀ {l : List S24}, r ∈ anyP l → ∃ y ∈ l, r ∈ casesP y
  | [], h => by simp [anyP] at h
  | x :: l, h => by
    simp only [anyP, List.mem_append] at h
    rcases h with h | h
    · exact ⟨x, List.mem_cons_self, h⟩
    · obtain ⟨y, hy, hr⟩ := mem_anyP h
      exact ⟨y, List.mem_cons_of_mem _ hy, hr⟩
theorem mem_allP {c : Core} : ∀ {l : List S24} {o : List (List Core)} {r : List Core}, r ∈ allP l o → c ∈ r → (∃ a ∈ o, c ∈ a) ∨ ∃ y ∈ l, ∃ row ∈ casesP y, c ∈ row
  | [], o, r, h, hc => by simp only [allP] at h; exact .inl ⟨r, h, hc⟩
  | x :: l, o, r, h, hc => by
    simp only [allP] at h
    rcases mem_allP h hc with ⟨a, ha, hca⟩ | ⟨y, hy, hr⟩
    · obtain ⟨b, hb, d, hd, rfl⟩ := of_mem.1 ha
      rcases List.mem_append.1 hca with h1 | h1
      · exact .inl ⟨b, hb, h1⟩
      · exact .inr ⟨x, List.mem_cons_self, d, hd, h1⟩
    · exact .inr ⟨y, List.mem_cons_of_mem _ hy, hr⟩
theorem Atoms_ev (N : Nat) (hN : N ≤ 30) : ∀ x : S24, nodes x ≤ N → AtomsIs x := by
  induction N with
  | zero => intro x h; have := nodes_pos x; omega
  | succ N ih =>
    intro x h
    have hn := nodes_eq x
    have hs := strs_eq x
    have hl := len_nodes x.f5
    have hI : ∀ y ∈ x.f5, AtomsIs y := fun y hy => ih (by omega) y (by have := nodesL_mem hy; omega)
    have hE := casesP_eq x
    by_cases h1 : 3 ≤ x.f0 ∧ x.f0 ≤ 7
    · refine ⟨[x], Ev.step (f := fun q => (some ([] : List S24)).bind fun y => supercargoref29_Atoms.j0 q y true x.f0 x.f1 x.f2 x.f3 x.f4 x.f5) (fun q => ?_) (Ev.bind (g := fun _ => some ([] : List S24)) (Ev.now _) (Ev.step (f := fun _ => some [x]) (fun q => ?_) (Ev.now _))), nodes_pos x, ?_, ?_⟩
      · simp only [supercargoref29_Atoms.f, Option.bind_some]
        rw [if_pos h1.1, decide_eq_true h1.2]
      · simp only [supercargoref29_Atoms.j0]
        rw [if_pos trivial, if_pos (by simp), List.nil_append]
        cases x; rfl
      · rw [hE, if_pos h1]
        intro row hr c hc
        rw [List.mem_singleton.1 hr, List.mem_singleton] at hc
        exact ⟨x, List.mem_singleton.2 rfl, hc.symm⟩
      · intro a ha
        rw [List.mem_singleton.1 ha, hs]; omega
    · rw [if_neg h1] at hE
      by_cases h2 : 0 ≤ x.f0 ∧ x.f0 ≤ 2
      · obtain ⟨r, hr, r1, r2, r3⟩ := atoms_loop x.f5 x.f0 x.f1 x.f4 x.f2 x.f3 (by omega) hI x.f5 0 [] rfl (by simp; omega)
        refine ⟨r, Ev.step (f := fun q => (some ([] : List S24)).bind fun y => supercargoref29_Atoms.j0 q y false x.f0 x.f1 x.f2 x.f3 x.f4 x.f5) (fun q => ?_) (Ev.bind (g := fun _ => some ([] : List S24)) (Ev.now _) (Ev.step (f := fun q => supercargoref29_Atoms.j1 q [] true x.f0 x.f1 x.f2 x.f3 x.f4 x.f5) (fun q => ?_) (Ev.step (fun q => ?_) hr))), by omega, ?_, ?_⟩
        · simp only [supercargoref29_Atoms.f, Option.bind_some]
          rw [if_neg (by omega)]
        · simp only [supercargoref29_Atoms.j0]
          rw [if_neg (by decide), if_pos h2.1, decide_eq_true h2.2]
        · simp only [supercargoref29_Atoms.j1]
          rw [if_pos trivial]
          rfl
        · intro row hrow c hc
          rw [hE] at hrow
          split at hrow
          · obtain ⟨y, hy, h3⟩ := mem_anyP hrow
            exact r2 y hy row h3 c hc
          · split at hrow
            · rcases mem_allP hrow hc with ⟨a, ha, hca⟩ | ⟨y, hy, row', h3, h4⟩
              · rw [List.mem_singleton.1 ha] at hca; cases hca
              · exact r2 y hy row' h3 c h4
            · rw [List.mem_singleton.1 hrow] at hc; cases hc
        · intro a ha
          have := r3 a ha
          omega
      · have hj : ∀ b, b = (if x.f0 ≥ 3 then decide (x.f0 ≤ 7) else false) → b = false := fun b hb => by
          rw [hb]; split
          · rw [decide_eq_false_iff_not]; omega
          · rfl
        refine ⟨[], Ev.step (f := fun q => (some ([] : List S24)).bind fun y => supercargoref29_Atoms.j0 q y false x.f0 x.f1 x.f2 x.f3 x.f4 x.f5) (fun q => ?_) (Ev.bind (g := fun _ => some ([] : List S24)) (Ev.now _) (Ev.step (f := fun q => supercargoref29_Atoms.j1 q [] false x.f0 x.f1 x.f2 x.f3 x.f4 x.f5) (fun q => ?_) (Ev.step (f := fun _ => some []) (fun q => ?_) (Ev.now _)))), Nat.zero_le _, ?_, fun a ha => by cases ha⟩
        · simp only [supercargoref29_Atoms.f, Option.bind_some]
          by_cases h3 : x.f0 ≥ 3
          · rw [if_pos h3, decide_eq_false (by omega)]
          · rw [if_neg h3]
        · simp only [supercargoref29_Atoms.j0]
          rw [if_neg (by decide)]
          by_cases h3 : x.f0 ≥ 0
          · rw [if_pos h3, decide_eq_false (by omega)]
          · rw [if_neg h3]
        · simp only [supercargoref29_Atoms.j1]
          rw [if_neg (by decide)]
        · intro row hrow c hc
          rw [hE, if_neg (by omega), if_neg (by omega)] at hrow
          rw [List.mem_singleton.1 hrow] at hc
          cases hc
/-! ### wide -/
theorem wide_loop (xs : List S24) (hx : xs.length ≤ 1000) (hs : ∀ a ∈ xs, a.f2.size + a.f3.size ≤ 1099511627776) : ∀ (suf : List S24) (i : Nat), xs.drop i = suf → ∃ b, Ev (fun q => supercargolaw29_wide.l0 q xs (xs.length : Int) (i : Int)) b ∧ (b = false → ∀ a ∈ suf, a.f3.size ≤ 100) := by
  intro suf
  induction suf with
  | nil =>
    intro i h
    have hl := drop_nil h
    refine ⟨false, Ev.step (f := fun _ => some false) (fun q => ?_) (Ev.now _), fun _ a ha => by cases ha⟩
    simp only [supercargolaw29_wide.l0]
    rw [if_neg (by omega)]
  | cons y suf ih =>
    intro i h
    obtain ⟨hi, hy, hd, hm⟩ := drop_cons h
    have hsy := hs y hm
    have e3 : wrap64 ((i : Int) + 1) = ((i + 1 : Nat) : Int) := by rw [w64 _ (by omega)]; omega
    have e4 : wrap64 ((y.f2.size : Int) + (y.f3.size : Int)) = ((y.f2.size + y.f3.size : Nat) : Int) := by rw [w64 _ (by omega)]; omega
    by_cases hb : y.f2.size + y.f3.size > 100
    · refine ⟨true, Ev.step (f := fun _ => some true) (fun q => ?_) (Ev.now _), fun e => by cases e⟩
      simp only [supercargolaw29_wide.l0]
      rw [if_pos (by omega), if_pos (by omega), if_pos (by omega), hy, e4, if_pos (by omega)]
    · obtain ⟨b, h1, h2⟩ := ih (i + 1) hd
      refine ⟨b, Ev.step (fun q => ?_) h1, fun e a ha => ?_⟩
      · simp only [supercargolaw29_wide.l0]
        rw [if_pos (by omega), if_pos (by omega), if_pos (by omega), hy, e4, if_neg (by omega), e3]
      · rcases List.mem_cons.1 ha with rfl | ha
        · omega
        · exact h2 e a ha
/-- wide: where it says no, the tree is small. -/
theorem wide_ev (x : S24) (hs : strs x ≤ 1099511627776) : ∃ b, Ev (fun k => supercargolaw29_wide.f k x.f0 x.f1 x.f2 x.f3 x.f4 x.f5) b ∧ (b = false → nodes x ≤ 30 ∧ ∀ row ∈ casesP x, ∀ c ∈ row, c.t.size ≤ 100) := by
  obtain ⟨r, hr, r1, r2, r3⟩ := size_ev (nodes x) x (Nat.le_refl _) 30 (by omega) (by omega)
  have hT : Ev (fun q => supercargolaw29_wide.j0 q true x.f0 x.f1 x.f2 x.f3 x.f4 x.f5) true := Ev.step (f := fun _ => some true) (fun q => by simp only [supercargolaw29_wide.j0]; rw [if_pos trivial]) (Ev.now _)
  by_cases hb : r > 30
  · refine ⟨true, ?_, fun e => by cases e⟩
    unfold supercargolaw29_wide.f
    refine Ev.bind hr ?_
    simp only [if_pos hb]
    exact hT
  · have hn := r3 (by omega)
    have hn30 : nodes x ≤ 30 := by omega
    obtain ⟨m, hm⟩ := Many_ev (nodes x) hn30 x (Nat.le_refl _)
    obtain ⟨ats, ha, a1, a2, a3⟩ := Atoms_ev (nodes x) hn30 x (Nat.le_refl _)
    obtain ⟨b, hb1, hb2⟩ := wide_loop ats (by omega) (fun a h => Nat.le_trans (a3 a h) hs) ats 0 rfl
    have hF : Ev (fun q => supercargolaw29_wide.j0 q false x.f0 x.f1 x.f2 x.f3 x.f4 x.f5) b := Ev.step (f := fun q => (supercargoref29_Atoms.f q x.f0 x.f1 x.f2 x.f3 x.f4 x.f5).bind fun t => supercargolaw29_wide.l0 q t (t.length : Int) 0) (fun q => by simp only [supercargolaw29_wide.j0]; rw [if_neg (by decide)]) (Ev.bind ha hb1)
    have hJ : ∀ c, ∃ b', Ev (fun q => supercargolaw29_wide.j0 q c x.f0 x.f1 x.f2 x.f3 x.f4 x.f5) b' ∧ (b' = false → b = false) := fun c => by
      cases c
      · exact ⟨b, hF, id⟩
      · exact ⟨true, hT, fun e => by cases e⟩
    have hfin : b = false → nodes x ≤ 30 ∧ ∀ row ∈ casesP x, ∀ c ∈ row, c.t.size ≤ 100 := fun e => ⟨hn30, fun row hr c hc => by
      obtain ⟨a, ha, rfl⟩ := a2 row hr c hc
      exact hb2 e a ha⟩
    by_cases h256 : m > 256
    · obtain ⟨b', hb', e'⟩ := hJ (decide (m ≤ 4096))
      refine ⟨b', ?_, fun e => hfin (e' e)⟩
      unfold supercargolaw29_wide.f
      refine Ev.bind hr ?_
      simp only [if_neg hb]
      refine Ev.bind hm ?_
      simp only [if_pos h256]
      exact Ev.bind hm hb'
    · refine ⟨b, ?_, hfin⟩
      unfold supercargolaw29_wide.f
      refine Ev.bind hr ?_
      simp only [if_neg hb]
      refine Ev.bind hm ?_
      simp only [if_neg h256]
      exact hF
end Go.Proofs.YtlgcceojnbobeaaDoor.A

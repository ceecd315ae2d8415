/- paper.fields walked: texts two by two make fields. -/
import Derived.Test.YtglgajammfcmcaaDoorChunk
import Derived.Test.YtglgajammfcmcaaDoorRound
import Derived.Test.YtglgajammfcmcaaDoorWMore
namespace Go.Proofs.YtglgajammfcmcaaDoor.A
open Go.RowKit Go.Shelf Go.Proofs.YtglgajammfcmcaaDoorW.PrintWords Go.Proofs.YtglgajammfcmcaaDoorW.PrintLast Go.Proofs.YtglgajammfcmcaaDoorW.PrintMore
attribute [local go_sem] Oper.semAt_some
set_option linter.unusedVariables false
set_option linter.unusedSimpArgs false

theorem R42_kept {W W' : World} {row : Option Nat} {base : Nat} {ok : Nat → Prop} {v : Value} {xs : List S42} (h : Kd.R k42 42 W base ok v xs) (hg : W.grownBy W' row) (hne : ∀ k, row = some k → some k ≠ v.ownBlock) : Kd.R k42 42 W' base ok v xs := Kd.R_grown2 h rfl hg hne
theorem R42_own {B₀ B base : Nat} {α : Type} (f : List α → List S42) : OwnFrom B₀ (fun pre W => ∃ v, Boxed W B 22 v ∧ Kd.R k42 42 W base (fun _ => True) v (f pre)) := by
  rintro s X Y row ⟨v, hv, hr⟩ hg hrow
  refine ⟨v, hv.kept hg (fun e' => ?_), R42_kept hr hg (fun k e e2 => ?_)⟩
  · obtain ⟨_, o, ho, hc⟩ := hrow B e'.symm
    rw [show X.heap[B]? = _ from hv] at ho; cases ho; cases hc
  · obtain ⟨A, c, rfl⟩ := Kd.R_slice hr
    cases A with
    | none => simp [Value.ownBlock] at e2
    | some ad =>
      obtain ⟨g, rfl⟩ := Kd.R_head hr
      obtain ⟨cur, hcur⟩ := R_block hr
      obtain rfl : k = g := by simpa [Value.ownBlock] using e2
      obtain ⟨_, o, ho, hc⟩ := hrow k e
      rw [hcur] at ho; cases ho; cases hc
theorem R42_ne {W : World} {B base t : Nat} {ok : Nat → Prop} {u v : Value} {xs : List S42} (h : Boxed W B t u) (ht : t ≠ 42) (hr : Kd.R k42 42 W base ok v xs) : some B ≠ v.ownBlock := by
  obtain ⟨_, inner, ho, _⟩ := hr
  exact h.not_row ht ho
theorem R42_base {W : World} {base : Nat} {ok : Nat → Prop} {v : Value} {xs : List S42} (hr : Kd.R k42 42 W base ok v xs) {j : Nat} (e : v.ownBlock = some j) : base ≤ j := by
  obtain ⟨A, c, rfl⟩ := Kd.R_slice hr
  cases A with
  | none => simp [Value.ownBlock] at e
  | some ad =>
    obtain ⟨g, rfl⟩ := Kd.R_head hr
    exact Kd.R_base hr j e
theorem fin_map {α : Type} (ps : List α) : (List.finRange ps.length).map (fun y => ps[y.1]'y.2) = ps := by
  apply List.ext_getElem
  · simp
  · intro i h1 h2
    simp
theorem R42_cells {W : World} {base : Nat} {ok : Nat → Prop} {v : Value} {xs : List S42} (hr : Kd.R k42 42 W base ok v xs) : ∀ (j : Nat) (o : Obj), v.ownBlock = some j → W.heap[j]? = some o → o.isCells = true := by
  intro j o e ho
  obtain ⟨A, c, rfl⟩ := Kd.R_slice hr
  cases A with
  | none => simp [Value.ownBlock] at e
  | some ad =>
    obtain ⟨g, rfl⟩ := Kd.R_head hr
    obtain ⟨cur, hcur⟩ := R_block hr
    obtain rfl : g = j := by simpa [Value.ownBlock] using e
    rw [hcur] at ho; cases ho; rfl
def fieldsBody.T4 : Bool × List (List Nat × List Nat) := (true, [([], []), ([], []), ([1], [1]), ([2], [2]), ([], []), ([4], [4]), ([5], [5]), ([3, 6], [3, 6]), ([7], [7]), ([0, 8], [0, 8]), ([9, 9, 0, 1, 2, 3, 4, 5, 6, 7, 8, 9], [9])])
def fieldsBody.B4 : List Nat := [0, 0, 2, 6, 0, 16, 48, 126, 254, 511, 1023]
theorem fieldsBody.tab4 : rtab .any (opsOf Tryd.f30 4) = fieldsBody.T4 := by kernel_rfl
theorem fieldsBody.bits4 : waitsOk fieldsBody.T4.2 fieldsBody.B4 = true := by kernel_rfl
set_option maxRecDepth 100000 in
set_option maxHeartbeats 4000000 in
theorem fields_in (n : Nat) (hn : 3 ≤ n) (b : Nat) (ps : List S42) (cap : Nat) (hlen : ps.length ≤ 1000) (hcap : 2 * ps.length ≤ cap) (hcap2 : cap ≤ 9223372036854775807) (w : World) (hbl : b < w.heap.size)
    (hb : ∀ x : Fin ps.length, w.cell? ⟨b, 2 * x.1, none⟩ = some (.string (ps[x.1]'x.2).f0) ∧ w.cell? ⟨b, 2 * x.1 + 1, none⟩ = some (.string (ps[x.1]'x.2).f1)) :
    CallsIn Fence.wide n Tryd.prog 30 #[.slice (some ⟨b, 0, none⟩) (2 * ps.length) cap] w fun e W' => ∃ v, e = .returned v ∧ Kd.R k42 42 W' w.heap.size (fun _ => True) v ps ∧ Below w.heap.size w W' := by
  have h1 : 1 ≤ n := by omega
  have hfK : Fence.wide.fn 39 := trivial
  refine callsIn_of_wp_marks Tryd.func30 rfl trivial ?_ rfl
  simp only [Tryd.ntmps30, List.size_toArray, List.length_cons, List.length_nil, Nat.reduceAdd, Nat.reduceSub, Array.replicate_succ, Array.replicate_zero, List.push_toArray, List.append_toArray, List.nil_append, List.cons_append]
  gi_wp2_with (gi_at_call 39; refine (chunk_in Fence.wide (n - 1) trivial rfl _ _ _ _).mono ?_; rintro e w' ⟨rfl, rfl⟩)
  have bO := Boxed.new w 22 (.slice none 0 0)
  have bS := Boxed.new (w.alloc (.cells #[.slice none 0 0] 22)) 54 (.slice (some ⟨b, 0, none⟩) (2 * ps.length) cap)
  rw [World.size_alloc] at bS
  have bN := Boxed.new ((w.alloc (.cells #[.slice none 0 0] 22)).alloc (.cells #[.slice (some ⟨b, 0, none⟩) (2 * ps.length) cap] 54)) 3 (.int .i64 2)
  rw [World.size_alloc, World.size_alloc] at bN
  have hB0 : Below w.heap.size w (((w.alloc (.cells #[.slice none 0 0] 22)).alloc (.cells #[.slice (some ⟨b, 0, none⟩) (2 * ps.length) cap] 54)).alloc (.cells #[.int .i64 2] 3)) := (((Below.refl _ w).alloc (Nat.le_refl _) _).alloc (by simp) _).alloc (by simp; omega) _
  refine wpIn_rangeFunc_ownG rfl h1 (gf := 46) (lb := #[.pointer (some ⟨w.heap.size + 1, 0, none⟩), .pointer (some ⟨w.heap.size + 1 + 1, 0, none⟩)]) rfl trivial (enters_of Tryd.func46 (by kernel_rfl) rfl)
    (chunk_stops Fence.wide (n - 1) trivial rfl (by omega) (w.heap.size + 1) (w.heap.size + 1 + 1) w.heap.size b ps.length cap hlen hcap hcap2 _ (bS.alloc _) bN) kpC_t (kpC_b (by simp <;> omega) (by simp <;> omega) (by simp <;> omega)) (Below.refl _ _) (fun _ => rfl)
    (fun pre W => ((∃ v, Boxed W w.heap.size 22 v ∧ Kd.R k42 42 W w.heap.size (fun _ => True) v (pre.map fun y => ps[y.1]'y.2)) ∧ Boxed W (w.heap.size + 1) 54 (.slice (some ⟨b, 0, none⟩) (2 * ps.length) cap) ∧ Boxed W (w.heap.size + 1 + 1) 3 (.int .i64 2)) ∧ Below w.heap.size w W)
    (fun _ _ _ => False)
    (OwnFrom.and (OwnFrom.and (R42_own _) (OwnFrom.and (Own.from (boxed_own _ _ _) _) (Own.from (boxed_own _ _ _) _))) (ownFrom_below (Nat.le_refl _) (by simp; omega)))
    (fun _ _ _ _ _ hs _ _ => hs)
    ⟨⟨⟨_, (bO.alloc _).alloc _, ⟨fun k hk => trivial, [], World.ownsRow_nil _ _ _ _, Reps.none _ _⟩⟩, bS.alloc _, bN⟩, hB0⟩
    (fun x => { tmps := #[.slice (some ⟨b, 0, none⟩) (2 * ps.length) cap, undef, .slice none 0 0, .pointer (some ⟨w.heap.size, 0, none⟩), .slice (some ⟨b, 2 * x.1, none⟩) 2 2, .slice (some ⟨b, 0, none⟩) (2 * ps.length) cap, .func (.func 46) #[] #[.pointer (some ⟨w.heap.size + 1, 0, none⟩), .pointer (some ⟨w.heap.size + 1 + 1, 0, none⟩)], .slice (some ⟨b, 2 * x.1, none⟩) 2 2, undef, undef, undef, undef, undef, undef, undef, undef, undef, undef, undef], defers := [] }) ?assign ?body ?done ?stop
  case assign =>
    intro l x W K hK
    gi_wp2
    exact hK
  case body =>
    rintro l pre x W ⟨⟨⟨v, hv, hR⟩, hs, hn'⟩, hB⟩ hlt
    have hx : W.cell? ⟨b, 2 * x.1, none⟩ = some (.string (ps[x.1]'x.2).f0) ∧ W.cell? ⟨b, 2 * x.1 + 1, none⟩ = some (.string (ps[x.1]'x.2).f1) := ⟨(hB.cell (p := ⟨b, 2 * x.1, none⟩) hbl).trans (hb x).1, (hB.cell (p := ⟨b, 2 * x.1 + 1, none⟩) hbl).trans (hb x).2⟩
    have hx0 := hb x
    have hx2 : (W.drew.alloc (.cells #[.string (ps[x.1]'x.2).f0, .string (ps[x.1]'x.2).f1] 42)).cell? ⟨b, 2 * x.1, none⟩ = some (.string (ps[x.1]'x.2).f0) ∧ (W.drew.alloc (.cells #[.string (ps[x.1]'x.2).f0, .string (ps[x.1]'x.2).f1] 42)).cell? ⟨b, 2 * x.1 + 1, none⟩ = some (.string (ps[x.1]'x.2).f1) :=
      have hBa : Below w.heap.size w (W.drew.alloc (.cells #[.string (ps[x.1]'x.2).f0, .string (ps[x.1]'x.2).f1] 42)) := hB.drew.alloc hB.size _
      ⟨(hBa.cell (p := ⟨b, 2 * x.1, none⟩) hbl).trans (hb x).1, (hBa.cell (p := ⟨b, 2 * x.1 + 1, none⟩) hbl).trans (hb x).2⟩
    have hvd : Boxed W.drew w.heap.size 22 v := hv
    have hsd : Boxed W.drew (w.heap.size + 1) 54 (.slice (some ⟨b, 0, none⟩) (2 * ps.length) cap) := hs
    have hnd : Boxed W.drew (w.heap.size + 1 + 1) 3 (.int .i64 2) := hn'
    have hRd : Kd.R k42 42 W.drew w.heap.size (fun _ => True) v (pre.map fun y => ps[y.1]'y.2) := R42_kept hR (grownBy_drew0 W none) (fun k e => by cases e)
    have hBd : Below w.heap.size w W.drew := hB.drew
    have hvne := R42_ne hvd (by decide) hRd
    have hsne := R42_ne hsd (by decide) hRd
    have hnne := R42_ne hnd (by decide) hRd
    gi_wp2
    refine startR_ (S := fun w' => w'.cell? ⟨w.heap.size, 0, none⟩ = some v ∧ w'.cell? ⟨b, 2 * x.1, none⟩ = some (.string (ps[x.1]'x.2).f0) ∧ w'.cell? ⟨b, 2 * x.1 + 1, none⟩ = some (.string (ps[x.1]'x.2).f1)) (ds := [10]) #[false, false, false, false, false, false, false, false, false, false, false] (by kernel_rfl) (by kernel_rfl) (by rintro ⟨_, _, h⟩; exact h) rfl rfl ⟨hv.cell, hx.1, hx.2⟩ (fun hHeld => ?_)
    refine with_tabW fieldsBody.tab4 fieldsBody.bits4 (fun HT_ HW_ => ?_)
    refine pure_ (i := 1) (N := some 9) (v := ?_) (a' := ?_) #[false, true, false, false, false, false, false, false, false, false, false] rfl rfl (any_of HT_.out (by kernel_rfl)) (fun _ _ _ h => h) (Or.inl ⟨by rfl, ?_⟩) ?_ ?_
    rotate_left
    · intro w'
      go_simp
      with_reducible rfl
    rotate_left
    · simp only [Act.put, List.setIfInBounds_toArray, List.set_cons_zero, List.set_cons_succ, i64_w, i32_w]
      rfl
    refine pure_ (i := 2) (N := some 10) (v := ?_) (a' := ?_) #[false, true, true, false, false, false, false, false, false, false, false] rfl rfl (any_of HT_.out (by kernel_rfl)) (fun _ _ _ h => h) (Or.inl ⟨by rfl, ?_⟩) ?_ ?_
    rotate_left
    · intro w'
      go_simp
      with_reducible rfl
    rotate_left
    · simp only [Act.put, List.setIfInBounds_toArray, List.set_cons_zero, List.set_cons_succ, i64_w, i32_w]
      rfl
    refine take_ (i := 0) (N := some 8) (v := ?_) (a' := ?_) #[true, true, true, false, false, false, false, false, false, false, false] rfl rfl (take_ofW HT_.out HW_.out (by kernel_rfl)) (fun _ _ _ h => h) (Or.inl ⟨by rfl, ?_⟩) hHeld ?_ ?_
    rotate_left
    · rintro w' ⟨q0, q1, q2⟩
      go_simp
      with_reducible rfl
    rotate_left
    · simp only [Act.put, List.setIfInBounds_toArray, List.set_cons_zero, List.set_cons_succ, i64_w, i32_w]
      rfl
    refine take_ (i := 3) (N := some 11) (v := ?_) (a' := ?_) #[true, true, true, true, false, false, false, false, false, false, false] rfl rfl (take_ofW HT_.out HW_.out (by kernel_rfl)) (fun _ _ _ h => h) (Or.inl ⟨by rfl, ?_⟩) hHeld ?_ ?_
    rotate_left
    · rintro w' ⟨q0, q1, q2⟩
      go_simp
      with_reducible rfl
    rotate_left
    · simp only [Act.put, List.setIfInBounds_toArray, List.set_cons_zero, List.set_cons_succ, i64_w, i32_w]
      rfl
    refine pure_ (i := 4) (N := some 12) (v := ?_) (a' := ?_) #[true, true, true, true, true, false, false, false, false, false, false] rfl rfl (any_of HT_.out (by kernel_rfl)) (fun _ _ _ h => h) (Or.inl ⟨by rfl, ?_⟩) ?_ ?_
    rotate_left
    · intro w'
      go_simp
      with_reducible rfl
    rotate_left
    · simp only [Act.put, List.setIfInBounds_toArray, List.set_cons_zero, List.set_cons_succ, i64_w, i32_w]
      rfl
    refine pure_ (i := 5) (N := some 13) (v := ?_) (a' := ?_) #[true, true, true, true, true, true, false, false, false, false, false] rfl rfl (any_of HT_.out (by kernel_rfl)) (fun _ _ _ h => h) (Or.inl ⟨by rfl, ?_⟩) ?_ ?_
    rotate_left
    · intro w'
      go_simp
      with_reducible rfl
    rotate_left
    · simp only [Act.put, List.setIfInBounds_toArray, List.set_cons_zero, List.set_cons_succ, i64_w, i32_w]
      rfl
    refine take_ (i := 6) (N := some 14) (v := ?_) (a' := ?_) #[true, true, true, true, true, true, true, false, false, false, false] rfl rfl (take_ofW HT_.out HW_.out (by kernel_rfl)) (fun _ _ _ h => h) (Or.inl ⟨by rfl, ?_⟩) hHeld ?_ ?_
    rotate_left
    · rintro w' ⟨q0, q1, q2⟩
      go_simp
      with_reducible rfl
    rotate_left
    · simp only [Act.put, List.setIfInBounds_toArray, List.set_cons_zero, List.set_cons_succ, i64_w, i32_w]
      rfl
    refine pure_ (i := 7) (N := some 15) (v := ?_) (a' := ?_) #[true, true, true, true, true, true, true, true, false, false, false] rfl rfl (any_of HT_.out (by kernel_rfl)) (fun _ _ _ h => h) (Or.inl ⟨by rfl, ?_⟩) ?_ ?_
    rotate_left
    · intro w'
      go_simp
      with_reducible rfl
    rotate_left
    · simp only [Act.put, List.setIfInBounds_toArray, List.set_cons_zero, List.set_cons_succ, i64_w, i32_w]
      rfl
    refine one_ (i := 8) (N := some 16) #[true, true, true, true, true, true, true, true, true, false, false] rfl rfl (one_of HT_.out (by kernel_rfl)) (by decide) (fun K hK => ?_)
    refine event_step (v := .slice (some ⟨W.heap.size, 0, none⟩) 1 1) (w1 := W.drew.alloc (.cells #[.string (ps[x.1]'x.2).f0, .string (ps[x.1]'x.2).f1] 42)) (by rfl) (by first | (go_simp; done) | (go_simp; rfl)) ?_
    refine hK.out _ _ ⟨(hv.alloc _).cell, hx2.1, hx2.2⟩ (fun hHeld => ?_)
    clear hK K
    refine norm_ (a' := ?_) ?_ ?_
    rotate_left
    · show Act.put _ (some 16) _ = _
      simp only [Act.put, List.setIfInBounds_toArray, List.set_cons_zero, List.set_cons_succ, i64_w, i32_w]
      rfl
    refine one_ (i := 9) (N := some 17) #[true, true, true, true, true, true, true, true, true, true, false] rfl rfl (one_of HT_.out (by kernel_rfl)) (by decide) (fun K hK => ?_)
    refine Kd.R_append_step k42 (w0 := w) (W := W.drew) w.heap.size (by rfl) _ _ 22 42 _ 32 rfl Tryd.underlying22 info42 rfl (by decide) (by decide) v (pre.map fun y => ps[y.1]'y.2) (ps[x.1]'x.2) [.string (ps[x.1]'x.2).f0, .string (ps[x.1]'x.2).f1] (fun _ => True) (fun _ => False) rfl rfl (k42_mkM _ _ _ _) (fun _ h => h.elim) (fun _ _ => trivial) hRd hBd hBd.size (by rw [List.length_map]; omega) ?_
    intro v1 w1 hR1 hB1 hg1 _
    have hv1 : Boxed w1 w.heap.size 22 v := hvd.kept hg1 hvne
    have hs1 : Boxed w1 (w.heap.size + 1) 54 (.slice (some ⟨b, 0, none⟩) (2 * ps.length) cap) := hsd.kept hg1 hsne
    have hn1 : Boxed w1 (w.heap.size + 1 + 1) 3 (.int .i64 2) := hnd.kept hg1 hnne
    obtain ⟨A1, c1, rfl⟩ := Kd.R_slice hR1
    rw [show (pre.map (fun y => ps[y.1]'y.2) ++ [ps[x.1]'x.2]).length = pre.length + 1 by simp] at hR1
    have f1 := hv1.frozen
    have k1 := hv1.cell
    refine hK.out _ _ ⟨hv1.cell, (hB1.cell (p := ⟨b, 2 * x.1, none⟩) hbl).trans hx0.1, (hB1.cell (p := ⟨b, 2 * x.1 + 1, none⟩) hbl).trans hx0.2⟩ (fun hHeld => ?_)
    clear hK K
    refine norm_ (a' := ?_) ?_ ?_
    rotate_left
    · show Act.put _ (some 17) _ = _
      simp only [Act.put, List.setIfInBounds_toArray, List.set_cons_zero, List.set_cons_succ, i64_w, i32_w]
      rfl
    refine last_ (i := 10) (N := none) #[true, true, true, true, true, true, true, true, true, true, true] rfl rfl (one_of HT_.out (by kernel_rfl)) (by decide) (fun K hK => ?_)
    rw [if_pos (by rfl)]
    unfold Oper.wp
    go_simp
    refine hK.out _ _ ?_
    clear hK K
    refine done_ (done_of HT_.out (by kernel_rfl)) ?_
    have hg2 := grownBy_setCell' w1 w.heap.size (.slice A1 (pre.length + 1) c1)
    have hR2 := R42_kept hR1 hg2 (fun k e => by injection e with e; subst e; exact R42_ne hv1 (by decide) hR1)
    have hb2 : Below w.heap.size w (w1.setCell ⟨w.heap.size, 0, none⟩ (.slice A1 (pre.length + 1) c1)) := hB1.setCell (p := ⟨w.heap.size, 0, none⟩) (Nat.le_refl _) _
    have hko : KeepsOthers W (w1.setCell ⟨w.heap.size, 0, none⟩ (.slice A1 (pre.length + 1) c1)) := ((KeepsOthers.drew W).trans (KeepsOthers.of_grownBy hg1 (R42_cells hRd))).trans (KeepsOthers.setCell _ _ _)
    have hs2 := hs1.other (B' := w.heap.size) (by omega) (.slice A1 (pre.length + 1) c1)
    have hn2 := hn1.other (B' := w.heap.size) (by omega) (.slice A1 (pre.length + 1) c1)
    have hbw : Below w.heap.size W (w1.setCell ⟨w.heap.size, 0, none⟩ (.slice A1 (pre.length + 1) c1)) := ((Below.refl w.heap.size W).drew.grown hg1 hBd.size (fun k e => R42_base hRd e)).setCell (p := ⟨w.heap.size, 0, none⟩) (Nat.le_refl _) _
    exact ⟨hko.from _, ⟨hbw, (show _ = some _ from hs2).trans (show some _ = _ from hs.symm), (show _ = some _ from hn2).trans (show some _ = _ from hn'.symm)⟩, ⟨⟨_, hv1.set _, by rw [List.map_append]; exact hR2⟩, hs2, hn2⟩, hb2⟩
  case done =>
    rintro D ys W hD rfl ⟨⟨⟨v, hv, hR⟩, hs, hn'⟩, hB⟩ hK
    have hc := hv.cell
    gi_wp2
    refine ⟨by simp, .inl ⟨_, _, rfl, run_takeDeferred hK, ?_⟩⟩
    rw [fin_map] at hR
    refine ⟨_, results_tmp rfl _ _ _, v, rfl, R42_kept hR (grownBy_putObj' W D (.deferred none)) (fun k e e2 => ?_), hB.trans (belowK_b (w := w) (Nat.le_refl _) W D _ _ (by simp at hD; omega) hK rfl rfl)⟩
    injection e with e
    subst e
    have := R42_cells hR D _ e2.symm hK
    cases this
  case stop =>
    rintro D c pre W _ _ h _
    exact h.elim
end Go.Proofs.YtglgajammfcmcaaDoor.A

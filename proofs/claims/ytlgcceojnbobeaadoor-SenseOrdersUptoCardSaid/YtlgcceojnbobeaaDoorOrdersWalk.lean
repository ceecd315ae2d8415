/- The law of the orders, walked. -/
import Derived.Test.YtlgcceojnbobeaaDoorAwake
namespace Go.Proofs.YtlgcceojnbobeaaDoor.A
open Go.RowKit Go.Shelf Go.Proofs.YtlgcceojnbobeaaDoorW.PrintWords Go.Proofs.YtlgcceojnbobeaaDoorW.PrintLast Go.Proofs.YtlgcceojnbobeaaDoorW.PrintMore
set_option linter.unusedVariables false
set_option linter.unusedSimpArgs false

theorem turn_short {x : S24} (h : ∀ row ∈ casesP x, ∀ c ∈ row, c.t.size ≤ 100) : ∀ row ∈ casesP (turnP x), ∀ c ∈ row, c.t.size ≤ 1000 := fun row hr c hc => by
  obtain ⟨r', h1, h2⟩ := (cases_turn x).1.1 row hr
  have := h r' h1 c ((h2 c).1 hc)
  omega
def ordLaw.T3 : Bool × List (List Nat × List Nat) := (true, [([], []), ([0], [0]), ([], []), ([2, 1], [2]), ([3, 3], [3]), ([1, 4], [1, 4]), ([5, 4], [5]), ([6, 6], [6]), ([6, 7], [6, 7]), ([8, 7, 0, 1, 2, 3, 4, 5, 6, 7, 8], [8])])
def ordLaw.B3 : List Nat := [0, 1, 0, 7, 15, 31, 63, 127, 255, 511]
theorem ordLaw.tab3 : rtab .any (opsOf Tryd.f3 3) = ordLaw.T3 := by kernel_rfl
theorem ordLaw.bits3 : waitsOk ordLaw.T3.2 ordLaw.B3 = true := by kernel_rfl
set_option maxHeartbeats 4000000 in
set_option maxRecDepth 100000 in
theorem orders_walk (k p n : Int) (f t : ByteArray) (l : List S24) (A : Option Addr) (c : Nat) (w : World) (hg : Glob w) (hs : strs ⟨k, p, f, t, n, l⟩ ≤ 1099511627776) (hC : Kd.C k24 w A l.length l) (hc : l.length ≤ c) :
    Calls Tryd.prog 3 #[.agg #[.int .i64 k, .int .i64 p, .string f, .string t, .int .i64 n, .slice A l.length c]] w fun e w' => e = .returned (.bool true) ∧ Below w.heap.size w w' := by
  obtain ⟨b, hb, hfin⟩ := wide_ev ⟨k, p, f, t, n, l⟩ hs
  obtain ⟨q, hq⟩ := hb.rounds
  simp only at hq
  have FB : Aside0 (∀ o, Below w.heap.size w (w.alloc o)) := ⟨fun o => (Below.refl _ _).alloc (Nat.le_refl _) _⟩
  have FX : Aside0 (∀ w2, Below (w.alloc (.cells (nodeC ⟨k, f, t, n⟩ p (.slice A l.length c)) 24)).heap.size (w.alloc (.cells (nodeC ⟨k, f, t, n⟩ p (.slice A l.length c)) 24)) w2 → Box24 w2 w.heap.size ⟨k, f, t, n⟩ p (.slice A l.length c)) := ⟨fun w2 hb => (box_at w k p n f t (.slice A l.length c)).below hb⟩
  have HM := Aside0.mk fun w2 (hb : Below w.heap.size w w2) => supercargolaw29_wide.calls q k p f t n A c l _ w2 (Kd.C_below hC hb) hc hq
  have HG := Aside0.mk hg
  have HA := Aside0.mk fun w2 (hb : Below w.heap.size w w2) => awake_calls w2 (hg.below hb)
  have HCC := Aside0.mk hC
  replace hc := Aside0.mk hc
  replace hfin := Aside0.mk hfin
  unfold nodeC at FX
  simp only at FX
  clear hC hs hg hq hb
  go_enter Tryd.func3, Tryd.ntmps3
  go_wp2_with fail
  refine (HM.out _ (FB.out _)).mono ?_
  rintro e w1 ⟨rfl, hB1⟩
  have H1 := FX.out _ hB1
  have B1 : Aside0 (Below w.heap.size w w1) := ⟨(FB.out _).trans (hB1.mono (FB.out _).size)⟩
  have a0 := H1.c0
  have a1 := H1.c1
  have a2 := H1.c2
  have a3 := H1.c3
  have a4 := H1.c4
  have a5 := H1.c5
  simp only at a0 a1 a2 a3 a4 a5
  have HXd : Aside0 (Box24 w1.drew w.heap.size ⟨k, f, t, n⟩ p (.slice A l.length c)) := ⟨H1⟩
  have HBd : Aside0 (Below w.heap.size w w1.drew) := ⟨B1.out.drew⟩
  clear H1 hB1 HM FX FB
  cases b
  · obtain ⟨hn, hsh⟩ := hfin.out rfl
    obtain ⟨q2, hq2⟩ := (turn_ev 30 (by omega) ⟨k, p, f, t, n, l⟩ hn).rounds
    have hlt := turnL_len l
    have HK := Aside0.mk fun w2 (hb : Below w.heap.size w w2) => clash_calls k p n f t l A c w2 hn (fun row hr c hc => by have := hsh row hr c hc; omega) (HG.out.below hb) (Kd.C_below HCC.out hb) hc.out
    have HT := Aside0.mk fun w2 (hb : Below w.heap.size w w2) => supercargolaw29_turned.calls q2 k p f t n A c l _ _ _ _ _ _ w2 (Kd.C_below HCC.out hb) hc.out hq2
    have HK2 := Aside0.mk fun w2 A2 c2 (hb : Below w.heap.size w w2) (h1 : Kd.C k24 w2 A2 (turnL l).length (turnL l)) (h2 : (turnL l).length ≤ c2) => clash_calls k p n f t (turnL l) A2 c2 w2 (by have e := nodes_turn ⟨k, p, f, t, n, l⟩; simp only [turnP] at e; omega) (by have e := turn_short hsh; simp only [turnP] at e; exact e) (HG.out.below hb) h1 h2
    have heq : clashP ⟨k, p, f, t, n, turnL l⟩ = clashP ⟨k, p, f, t, n, l⟩ := by have e := clash_turn ⟨k, p, f, t, n, l⟩; simp only [turnP] at e; exact e
    rw [heq] at HK2
    simp only at HT
    generalize clashP ⟨k, p, f, t, n, l⟩ = b at HK HK2
    clear hn hsh hq2 hlt heq hfin a0 a1 a2 a3 a4 a5 B1
    go_wp2_with fail
    cases b
    · skip
      refine start_ (n := 10) (S := fun w' => w'.cell? ⟨w.heap.size, 0, none⟩ = some (.int .i64 k) ∧ w'.cell? ⟨w.heap.size, 1, none⟩ = some (.int .i64 p) ∧ w'.cell? ⟨w.heap.size, 2, none⟩ = some (.string f) ∧ w'.cell? ⟨w.heap.size, 3, none⟩ = some (.string t) ∧ w'.cell? ⟨w.heap.size, 4, none⟩ = some (.int .i64 n) ∧ w'.cell? ⟨w.heap.size, 5, none⟩ = some (.slice A l.length c)) (ds := []) #[false, false, false, false, false, false, false, false, false, false] (by kernel_rfl) rfl rfl ⟨HXd.out.c0, HXd.out.c1, HXd.out.c2, HXd.out.c3, HXd.out.c4, HXd.out.c5⟩ (fun hHeld => ?_)
      refine with_tabW ordLaw.tab3 ordLaw.bits3 (fun HT_ HW_ => ?_)
      generalize w1.drew = w6 at HXd HBd hHeld ⊢
      refine take_ (i := 0) (N := some 6) (v := ?_) (a' := ?_) #[true, false, false, false, false, false, false, false, false, false] rfl rfl (take_ofW HT_.out HW_.out (by kernel_rfl)) (fun _ _ _ h => h) (Or.inl ⟨by rfl, ?_⟩) hHeld ?_ ?_
      rotate_left
      · rintro w' ⟨q0, q1, q2, q3, q4, q5⟩
        go_simp
        with_reducible rfl
      rotate_left
      · simp only [Act.put, List.setIfInBounds_toArray, List.set_cons_zero, List.set_cons_succ, i64_w, i32_w]
        rfl
      refine take_ (i := 2) (N := some 8) (v := ?_) (a' := ?_) #[true, false, true, false, false, false, false, false, false, false] rfl rfl (take_ofW HT_.out HW_.out (by kernel_rfl)) (fun _ _ _ h => h) (Or.inl ⟨by rfl, ?_⟩) hHeld ?_ ?_
      rotate_left
      · rintro w' ⟨q0, q1, q2, q3, q4, q5⟩
        go_simp
        with_reducible rfl
      rotate_left
      · simp only [Act.put, List.setIfInBounds_toArray, List.set_cons_zero, List.set_cons_succ, i64_w, i32_w]
        rfl
      refine one_ (i := 1) (N := some 7) #[true, true, true, false, false, false, false, false, false, false] rfl rfl (one_of HT_.out (by kernel_rfl)) (by decide) (fun K hK => ?_)
      refine goes_ Tryd.func7 (by kernel_rfl) rfl #[.agg #[.int .i64 k, .int .i64 p, .string f, .string t, .int .i64 n, .slice A l.length c]] (by rfl) rfl rfl (by first | (go_simp; done) | (go_simp; rfl)) ?_
      refine (HK.out w6 HBd.out).mono ?_
      rintro e w7 ⟨rfl, hB7⟩
      refine ⟨_, rfl, ?_⟩
      replace HXd := Aside0.mk (HXd.out.below hB7)
      replace HBd := Aside0.mk (HBd.out.trans (hB7.mono HBd.out.size))
      clear hB7
      refine hK.out _ _ ⟨HXd.out.c0, HXd.out.c1, HXd.out.c2, HXd.out.c3, HXd.out.c4, HXd.out.c5⟩ (fun hHeld => ?_)
      clear hK K
      refine norm_ (a' := ?_) ?_ ?_
      rotate_left
      · show Act.put _ (some 7) _ = _
        simp only [Act.put, List.setIfInBounds_toArray, List.set_cons_zero, List.set_cons_succ, i64_w, i32_w]
        rfl
      refine one_ (i := 3) (N := some 9) #[true, true, true, true, false, false, false, false, false, false] rfl rfl (one_of HT_.out (by kernel_rfl)) (by decide) (fun K hK => ?_)
      refine goes_ Tryd.func8 (by kernel_rfl) rfl #[.agg #[.int .i64 k, .int .i64 p, .string f, .string t, .int .i64 n, .slice A l.length c]] (by rfl) rfl rfl (by first | (go_simp; done) | (go_simp; rfl)) ?_
      refine (HT.out w7 HBd.out).mono ?_
      rintro e w8 ⟨v5, rfl, hR, hB8⟩
      refine ⟨_, rfl, ?_⟩
      obtain ⟨A3, c3, rfl, hl3, hC3⟩ := Kd.R_reads hR
      replace HXd := Aside0.mk (HXd.out.below hB8)
      replace HBd := Aside0.mk (HBd.out.trans (hB8.mono HBd.out.size))
      have HK3 := Aside0.mk (HK2.out w8 A3 c3 HBd.out hC3 hl3)
      clear hB8 hR hl3 hC3
      refine hK.out _ _ ⟨HXd.out.c0, HXd.out.c1, HXd.out.c2, HXd.out.c3, HXd.out.c4, HXd.out.c5⟩ (fun hHeld => ?_)
      clear hK K
      refine norm_ (a' := ?_) ?_ ?_
      rotate_left
      · show Act.put _ (some 9) _ = _
        simp only [Act.put, List.setIfInBounds_toArray, List.set_cons_zero, List.set_cons_succ, i64_w, i32_w]
        rfl
      refine one_ (i := 4) (N := some 10) #[true, true, true, true, true, false, false, false, false, false] rfl rfl (one_of HT_.out (by kernel_rfl)) (by decide) (fun K hK => ?_)
      refine goes_ Tryd.func7 (by kernel_rfl) rfl #[.agg #[.int .i64 k, .int .i64 p, .string f, .string t, .int .i64 n, .slice A3 (turnL l).length c3]] (by rfl) rfl rfl (by first | (go_simp; done) | (go_simp; rfl)) ?_
      refine HK3.out.mono ?_
      rintro e w9 ⟨rfl, hB9⟩
      refine ⟨_, rfl, ?_⟩
      replace HXd := Aside0.mk (HXd.out.below hB9)
      replace HBd := Aside0.mk (HBd.out.trans (hB9.mono HBd.out.size))
      clear hB9 HK3
      refine hK.out _ _ ⟨HXd.out.c0, HXd.out.c1, HXd.out.c2, HXd.out.c3, HXd.out.c4, HXd.out.c5⟩ (fun hHeld => ?_)
      clear hK K
      refine norm_ (a' := ?_) ?_ ?_
      rotate_left
      · show Act.put _ (some 10) _ = _
        simp only [Act.put, List.setIfInBounds_toArray, List.set_cons_zero, List.set_cons_succ, i64_w, i32_w]
        rfl
      refine pure_ (i := 5) (N := some 11) (v := ?_) (a' := ?_) #[true, true, true, true, true, true, false, false, false, false] rfl rfl (any_of HT_.out (by kernel_rfl)) (fun _ _ _ h => h) (Or.inl ⟨by rfl, ?_⟩) ?_ ?_
      rotate_left
      · intro w'
        go_simp
        with_reducible rfl
      rotate_left
      · simp only [Act.put, List.setIfInBounds_toArray, List.set_cons_zero, List.set_cons_succ, i64_w, i32_w]
        rfl
      refine pure_ (i := 6) (N := some 12) (v := ?_) (a' := ?_) #[true, true, true, true, true, true, true, false, false, false] rfl rfl (any_of HT_.out (by kernel_rfl)) (fun _ _ _ h => h) (Or.inl ⟨by rfl, ?_⟩) ?_ ?_
      rotate_left
      · intro w'
        go_simp
        with_reducible rfl
      rotate_left
      · simp only [Act.put, List.setIfInBounds_toArray, List.set_cons_zero, List.set_cons_succ, i64_w, i32_w]
        rfl
      refine one_ (i := 7) (N := some 13) #[true, true, true, true, true, true, true, true, false, false] rfl rfl (one_of HT_.out (by kernel_rfl)) (by decide) (fun K hK => ?_)
      refine goes_ Tryd.func6 (by kernel_rfl) rfl #[] (by rfl) rfl rfl (by first | (go_simp; done) | (go_simp; rfl)) ?_
      refine (HA.out w9 HBd.out).mono ?_
      rintro e w10 ⟨rfl, hB10⟩
      refine ⟨_, rfl, ?_⟩
      replace HXd := Aside0.mk (HXd.out.below hB10)
      replace HBd := Aside0.mk (HBd.out.trans (hB10.mono HBd.out.size))
      clear hB10
      refine hK.out _ _ ⟨HXd.out.c0, HXd.out.c1, HXd.out.c2, HXd.out.c3, HXd.out.c4, HXd.out.c5⟩ (fun hHeld => ?_)
      clear hK K
      refine norm_ (a' := ?_) ?_ ?_
      rotate_left
      · show Act.put _ (some 13) _ = _
        simp only [Act.put, List.setIfInBounds_toArray, List.set_cons_zero, List.set_cons_succ, i64_w, i32_w]
        rfl
      refine pure_ (i := 8) (N := some 14) (v := ?_) (a' := ?_) #[true, true, true, true, true, true, true, true, true, false] rfl rfl (any_of HT_.out (by kernel_rfl)) (fun _ _ _ h => h) (Or.inl ⟨by rfl, ?_⟩) ?_ ?_
      rotate_left
      · intro w'
        go_simp
        with_reducible rfl
      rotate_left
      · simp only [Act.put, List.setIfInBounds_toArray, List.set_cons_zero, List.set_cons_succ, i64_w, i32_w]
        rfl
      refine pure_ (i := 9) (N := some 2) (v := ?_) (a' := ?_) #[true, true, true, true, true, true, true, true, true, true] rfl rfl (any_of HT_.out (by kernel_rfl)) (fun _ _ _ h => h) (Or.inl ⟨by rfl, ?_⟩) ?_ ?_
      rotate_left
      · intro w'
        go_simp
        with_reducible rfl
      rotate_left
      · simp only [Act.put, List.setIfInBounds_toArray, List.set_cons_zero, List.set_cons_succ, i64_w, i32_w]
        rfl
      refine done_ (done_of HT_.out (by kernel_rfl)) ?_
      clear hHeld HT_ HW_ HXd HT HK HK2 HA
      go_wp2_with fail
      go_ret
      exact ⟨rfl, HBd.out⟩
    · skip
      refine start_ (n := 10) (S := fun w' => w'.cell? ⟨w.heap.size, 0, none⟩ = some (.int .i64 k) ∧ w'.cell? ⟨w.heap.size, 1, none⟩ = some (.int .i64 p) ∧ w'.cell? ⟨w.heap.size, 2, none⟩ = some (.string f) ∧ w'.cell? ⟨w.heap.size, 3, none⟩ = some (.string t) ∧ w'.cell? ⟨w.heap.size, 4, none⟩ = some (.int .i64 n) ∧ w'.cell? ⟨w.heap.size, 5, none⟩ = some (.slice A l.length c)) (ds := []) #[false, false, false, false, false, false, false, false, false, false] (by kernel_rfl) rfl rfl ⟨HXd.out.c0, HXd.out.c1, HXd.out.c2, HXd.out.c3, HXd.out.c4, HXd.out.c5⟩ (fun hHeld => ?_)
      refine with_tabW ordLaw.tab3 ordLaw.bits3 (fun HT_ HW_ => ?_)
      generalize w1.drew = w6 at HXd HBd hHeld ⊢
      refine take_ (i := 0) (N := some 6) (v := ?_) (a' := ?_) #[true, false, false, false, false, false, false, false, false, false] rfl rfl (take_ofW HT_.out HW_.out (by kernel_rfl)) (fun _ _ _ h => h) (Or.inl ⟨by rfl, ?_⟩) hHeld ?_ ?_
      rotate_left
      · rintro w' ⟨q0, q1, q2, q3, q4, q5⟩
        go_simp
        with_reducible rfl
      rotate_left
      · simp only [Act.put, List.setIfInBounds_toArray, List.set_cons_zero, List.set_cons_succ, i64_w, i32_w]
        rfl
      refine take_ (i := 2) (N := some 8) (v := ?_) (a' := ?_) #[true, false, true, false, false, false, false, false, false, false] rfl rfl (take_ofW HT_.out HW_.out (by kernel_rfl)) (fun _ _ _ h => h) (Or.inl ⟨by rfl, ?_⟩) hHeld ?_ ?_
      rotate_left
      · rintro w' ⟨q0, q1, q2, q3, q4, q5⟩
        go_simp
        with_reducible rfl
      rotate_left
      · simp only [Act.put, List.setIfInBounds_toArray, List.set_cons_zero, List.set_cons_succ, i64_w, i32_w]
        rfl
      refine one_ (i := 1) (N := some 7) #[true, true, true, false, false, false, false, false, false, false] rfl rfl (one_of HT_.out (by kernel_rfl)) (by decide) (fun K hK => ?_)
      refine goes_ Tryd.func7 (by kernel_rfl) rfl #[.agg #[.int .i64 k, .int .i64 p, .string f, .string t, .int .i64 n, .slice A l.length c]] (by rfl) rfl rfl (by first | (go_simp; done) | (go_simp; rfl)) ?_
      refine (HK.out w6 HBd.out).mono ?_
      rintro e w7 ⟨rfl, hB7⟩
      refine ⟨_, rfl, ?_⟩
      replace HXd := Aside0.mk (HXd.out.below hB7)
      replace HBd := Aside0.mk (HBd.out.trans (hB7.mono HBd.out.size))
      clear hB7
      refine hK.out _ _ ⟨HXd.out.c0, HXd.out.c1, HXd.out.c2, HXd.out.c3, HXd.out.c4, HXd.out.c5⟩ (fun hHeld => ?_)
      clear hK K
      refine norm_ (a' := ?_) ?_ ?_
      rotate_left
      · show Act.put _ (some 7) _ = _
        simp only [Act.put, List.setIfInBounds_toArray, List.set_cons_zero, List.set_cons_succ, i64_w, i32_w]
        rfl
      refine one_ (i := 3) (N := some 9) #[true, true, true, true, false, false, false, false, false, false] rfl rfl (one_of HT_.out (by kernel_rfl)) (by decide) (fun K hK => ?_)
      refine goes_ Tryd.func8 (by kernel_rfl) rfl #[.agg #[.int .i64 k, .int .i64 p, .string f, .string t, .int .i64 n, .slice A l.length c]] (by rfl) rfl rfl (by first | (go_simp; done) | (go_simp; rfl)) ?_
      refine (HT.out w7 HBd.out).mono ?_
      rintro e w8 ⟨v5, rfl, hR, hB8⟩
      refine ⟨_, rfl, ?_⟩
      obtain ⟨A3, c3, rfl, hl3, hC3⟩ := Kd.R_reads hR
      replace HXd := Aside0.mk (HXd.out.below hB8)
      replace HBd := Aside0.mk (HBd.out.trans (hB8.mono HBd.out.size))
      have HK3 := Aside0.mk (HK2.out w8 A3 c3 HBd.out hC3 hl3)
      clear hB8 hR hl3 hC3
      refine hK.out _ _ ⟨HXd.out.c0, HXd.out.c1, HXd.out.c2, HXd.out.c3, HXd.out.c4, HXd.out.c5⟩ (fun hHeld => ?_)
      clear hK K
      refine norm_ (a' := ?_) ?_ ?_
      rotate_left
      · show Act.put _ (some 9) _ = _
        simp only [Act.put, List.setIfInBounds_toArray, List.set_cons_zero, List.set_cons_succ, i64_w, i32_w]
        rfl
      refine one_ (i := 4) (N := some 10) #[true, true, true, true, true, false, false, false, false, false] rfl rfl (one_of HT_.out (by kernel_rfl)) (by decide) (fun K hK => ?_)
      refine goes_ Tryd.func7 (by kernel_rfl) rfl #[.agg #[.int .i64 k, .int .i64 p, .string f, .string t, .int .i64 n, .slice A3 (turnL l).length c3]] (by rfl) rfl rfl (by first | (go_simp; done) | (go_simp; rfl)) ?_
      refine HK3.out.mono ?_
      rintro e w9 ⟨rfl, hB9⟩
      refine ⟨_, rfl, ?_⟩
      replace HXd := Aside0.mk (HXd.out.below hB9)
      replace HBd := Aside0.mk (HBd.out.trans (hB9.mono HBd.out.size))
      clear hB9 HK3
      refine hK.out _ _ ⟨HXd.out.c0, HXd.out.c1, HXd.out.c2, HXd.out.c3, HXd.out.c4, HXd.out.c5⟩ (fun hHeld => ?_)
      clear hK K
      refine norm_ (a' := ?_) ?_ ?_
      rotate_left
      · show Act.put _ (some 10) _ = _
        simp only [Act.put, List.setIfInBounds_toArray, List.set_cons_zero, List.set_cons_succ, i64_w, i32_w]
        rfl
      refine pure_ (i := 5) (N := some 11) (v := ?_) (a' := ?_) #[true, true, true, true, true, true, false, false, false, false] rfl rfl (any_of HT_.out (by kernel_rfl)) (fun _ _ _ h => h) (Or.inl ⟨by rfl, ?_⟩) ?_ ?_
      rotate_left
      · intro w'
        go_simp
        with_reducible rfl
      rotate_left
      · simp only [Act.put, List.setIfInBounds_toArray, List.set_cons_zero, List.set_cons_succ, i64_w, i32_w]
        rfl
      refine pure_ (i := 6) (N := some 12) (v := ?_) (a' := ?_) #[true, true, true, true, true, true, true, false, false, false] rfl rfl (any_of HT_.out (by kernel_rfl)) (fun _ _ _ h => h) (Or.inl ⟨by rfl, ?_⟩) ?_ ?_
      rotate_left
      · intro w'
        go_simp
        with_reducible rfl
      rotate_left
      · simp only [Act.put, List.setIfInBounds_toArray, List.set_cons_zero, List.set_cons_succ, i64_w, i32_w]
        rfl
      refine one_ (i := 7) (N := some 13) #[true, true, true, true, true, true, true, true, false, false] rfl rfl (one_of HT_.out (by kernel_rfl)) (by decide) (fun K hK => ?_)
      refine goes_ Tryd.func6 (by kernel_rfl) rfl #[] (by rfl) rfl rfl (by first | (go_simp; done) | (go_simp; rfl)) ?_
      refine (HA.out w9 HBd.out).mono ?_
      rintro e w10 ⟨rfl, hB10⟩
      refine ⟨_, rfl, ?_⟩
      replace HXd := Aside0.mk (HXd.out.below hB10)
      replace HBd := Aside0.mk (HBd.out.trans (hB10.mono HBd.out.size))
      clear hB10
      refine hK.out _ _ ⟨HXd.out.c0, HXd.out.c1, HXd.out.c2, HXd.out.c3, HXd.out.c4, HXd.out.c5⟩ (fun hHeld => ?_)
      clear hK K
      refine norm_ (a' := ?_) ?_ ?_
      rotate_left
      · show Act.put _ (some 13) _ = _
        simp only [Act.put, List.setIfInBounds_toArray, List.set_cons_zero, List.set_cons_succ, i64_w, i32_w]
        rfl
      refine pure_ (i := 8) (N := some 14) (v := ?_) (a' := ?_) #[true, true, true, true, true, true, true, true, true, false] rfl rfl (any_of HT_.out (by kernel_rfl)) (fun _ _ _ h => h) (Or.inl ⟨by rfl, ?_⟩) ?_ ?_
      rotate_left
      · intro w'
        go_simp
        with_reducible rfl
      rotate_left
      · simp only [Act.put, List.setIfInBounds_toArray, List.set_cons_zero, List.set_cons_succ, i64_w, i32_w]
        rfl
      refine pure_ (i := 9) (N := some 2) (v := ?_) (a' := ?_) #[true, true, true, true, true, true, true, true, true, true] rfl rfl (any_of HT_.out (by kernel_rfl)) (fun _ _ _ h => h) (Or.inl ⟨by rfl, ?_⟩) ?_ ?_
      rotate_left
      · intro w'
        go_simp
        with_reducible rfl
      rotate_left
      · simp only [Act.put, List.setIfInBounds_toArray, List.set_cons_zero, List.set_cons_succ, i64_w, i32_w]
        rfl
      refine done_ (done_of HT_.out (by kernel_rfl)) ?_
      clear hHeld HT_ HW_ HXd HT HK HK2 HA
      go_wp2_with fail
      go_ret
      exact ⟨rfl, HBd.out⟩
  · have HA1 := Aside0.mk (HA.out w1 B1.out)
    go_wp2_with fail
    refine HA1.out.mono ?_
    rintro e w2 ⟨rfl, hB2⟩
    have B2 : Aside0 (Below w.heap.size w w2) := ⟨B1.out.trans (hB2.mono B1.out.size)⟩
    clear hB2 HA1 HA
    go_wp2_with fail
    go_ret
    exact ⟨rfl, B2.out⟩
end Go.Proofs.YtlgcceojnbobeaaDoor.A

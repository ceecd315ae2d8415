/- Contracts of chosen functions of this seat: each answers what its plain function says. (written by print.py, called by pr.sh) -/
import Derived.Test.YtaogmbiepbhmoaaDoorAx0
import Derived.Test.YtaogmbiepbhmoaaDoorAx2
namespace Go.Proofs.YtaogmbiepbhmoaaDoor.A
open Go.RowKit Go.Proofs.YtaogmbiepbhmoaaDoorW.PrintWords Go.Proofs.YtaogmbiepbhmoaaDoorW.PrintLast Go.Proofs.YtaogmbiepbhmoaaDoorW.PrintMore
attribute [local go_sem] max2_int min2_int max_two min_two max_three min_three max_four min_four   -- for this text's walks alone
set_option linter.unusedVariables false
set_option linter.unusedSimpArgs false

/-! ### supercargoref48_Text: function 7 -/
mutual
def supercargoref48_Text.l0 : Nat → List (S29) → ByteArray → Int → Option (ByteArray)
  | 0, _, _, _ => none
  | k + 1, x0, x3, x4 => if x4 < (x0.length : Int) then (if 0 ≤ x4 then ((supercargoref48_digits.f k ((rd_T29 x0 x4).f0)).bind fun t121 => (if x3.size + t121.size ≤ 9223372036854775807 then (supercargoref48_Text.l1 k x0 (x3 ++ t121) x4 0) else (none))) else (none)) else (some x3)
def supercargoref48_Text.l1 : Nat → List (S29) → ByteArray → Int → Int → Option (ByteArray)
  | 0, _, _, _, _ => none
  | k + 1, x0, x3, x4, x5 => if 0 ≤ x4 then (if x4 < (x0.length : Int) then (if x5 < (((rd_T29 x0 x4).f2).length : Int) then (if 0 ≤ x5 then (if x3.size + 1 ≤ 9223372036854775807 then (if (x3 ++ (⟨#[32]⟩ : ByteArray)).size + ((rd_T46 ((rd_T29 x0 x4).f2) x5).f0).size ≤ 9223372036854775807 then (if ((x3 ++ (⟨#[32]⟩ : ByteArray)) ++ ((rd_T46 ((rd_T29 x0 x4).f2) x5).f0)).size + 1 ≤ 9223372036854775807 then (if (((x3 ++ (⟨#[32]⟩ : ByteArray)) ++ ((rd_T46 ((rd_T29 x0 x4).f2) x5).f0)) ++ (⟨#[47]⟩ : ByteArray)).size + ((rd_T46 ((rd_T29 x0 x4).f2) x5).f1).size ≤ 9223372036854775807 then (if ((((x3 ++ (⟨#[32]⟩ : ByteArray)) ++ ((rd_T46 ((rd_T29 x0 x4).f2) x5).f0)) ++ (⟨#[47]⟩ : ByteArray)) ++ ((rd_T46 ((rd_T29 x0 x4).f2) x5).f1)).size + 1 ≤ 9223372036854775807 then ((supercargoref48_digits.f k ((rd_T46 ((rd_T29 x0 x4).f2) x5).f2)).bind fun t126 => (if (((((x3 ++ (⟨#[32]⟩ : ByteArray)) ++ ((rd_T46 ((rd_T29 x0 x4).f2) x5).f0)) ++ (⟨#[47]⟩ : ByteArray)) ++ ((rd_T46 ((rd_T29 x0 x4).f2) x5).f1)) ++ (⟨#[47]⟩ : ByteArray)).size + t126.size ≤ 9223372036854775807 then (supercargoref48_Text.l1 k x0 ((((((x3 ++ (⟨#[32]⟩ : ByteArray)) ++ ((rd_T46 ((rd_T29 x0 x4).f2) x5).f0)) ++ (⟨#[47]⟩ : ByteArray)) ++ ((rd_T46 ((rd_T29 x0 x4).f2) x5).f1)) ++ (⟨#[47]⟩ : ByteArray)) ++ t126) x4 (wrap64 (x5 + 1))) else (none))) else (none)) else (none)) else (none)) else (none)) else (none)) else (none)) else (if x3.size + 1 ≤ 9223372036854775807 then (if (x3 ++ (⟨#[32]⟩ : ByteArray)).size + ((rd_T29 x0 x4).f1).size ≤ 9223372036854775807 then (if ((x3 ++ (⟨#[32]⟩ : ByteArray)) ++ ((rd_T29 x0 x4).f1)).size + 1 ≤ 9223372036854775807 then (supercargoref48_Text.l0 k x0 (((x3 ++ (⟨#[32]⟩ : ByteArray)) ++ ((rd_T29 x0 x4).f1)) ++ (⟨#[10]⟩ : ByteArray)) (wrap64 (x4 + 1))) else (none)) else (none)) else (none))) else (none)) else (none)
end
def supercargoref48_Text.f (k : Nat) (l0 : List (S29)) : Option (ByteArray) := supercargoref48_Text.l0 k l0 (⟨#[]⟩ : ByteArray) 0
theorem supercargoref48_Text.mono_l : ∀ k, (∀ y0 y1 y2, LeO (supercargoref48_Text.l0 k y0 y1 y2) (supercargoref48_Text.l0 (k + 1) y0 y1 y2)) ∧ (∀ y0 y1 y2 y3, LeO (supercargoref48_Text.l1 k y0 y1 y2 y3) (supercargoref48_Text.l1 (k + 1) y0 y1 y2 y3))
  | 0 => ⟨fun _ _ _ r h => by simp [supercargoref48_Text.l0] at h, fun _ _ _ _ r h => by simp [supercargoref48_Text.l1] at h⟩
  | k + 1 => by
    obtain ⟨ih0, ih1⟩ := supercargoref48_Text.mono_l k
    refine ⟨?_, ?_⟩
    · intro y0 y1 y2
      unfold supercargoref48_Text.l0
      repeat' first
      | (with_reducible exact ih0 _ _ _)
      | (with_reducible exact ih1 _ _ _ _)
      | (with_reducible exact supercargoref48_digits.mono _ _)
      | (with_reducible exact LeO.refl _)
      | (with_reducible exact LeO.none _)
      | (with_reducible refine LeO.ite ?_ ?_)
      | (with_reducible refine LeO.bind ?_ (fun _ => ?_))
      | exact ih0 _ _ _
      | exact ih1 _ _ _ _
      | exact supercargoref48_digits.mono _ _
      | exact LeO.none _
      | refine LeO.ite ?_ ?_
      | refine LeO.bind ?_ (fun _ => ?_)
    · intro y0 y1 y2 y3
      unfold supercargoref48_Text.l1
      repeat' first
      | (with_reducible exact ih0 _ _ _)
      | (with_reducible exact ih1 _ _ _ _)
      | (with_reducible exact supercargoref48_digits.mono _ _)
      | (with_reducible exact LeO.refl _)
      | (with_reducible exact LeO.none _)
      | (with_reducible refine LeO.ite ?_ ?_)
      | (with_reducible refine LeO.bind ?_ (fun _ => ?_))
      | exact ih0 _ _ _
      | exact ih1 _ _ _ _
      | exact supercargoref48_digits.mono _ _
      | exact LeO.none _
      | refine LeO.ite ?_ ?_
      | refine LeO.bind ?_ (fun _ => ?_)
theorem supercargoref48_Text.mono : ∀ a0 k, LeO (supercargoref48_Text.f k a0) (supercargoref48_Text.f (k + 1) a0) := by
  intro a0 k
  obtain ⟨ih0, ih1⟩ := supercargoref48_Text.mono_l k
  unfold supercargoref48_Text.f
  repeat' first
      | (with_reducible exact ih0 _ _ _)
      | (with_reducible exact ih1 _ _ _ _)
      | (with_reducible exact supercargoref48_digits.mono _ _)
      | (with_reducible exact LeO.refl _)
      | (with_reducible exact LeO.none _)
      | (with_reducible refine LeO.ite ?_ ?_)
      | (with_reducible refine LeO.bind ?_ (fun _ => ?_))
      | exact ih0 _ _ _
      | exact ih1 _ _ _ _
      | exact supercargoref48_digits.mono _ _
      | exact LeO.none _
      | refine LeO.ite ?_ ?_
      | refine LeO.bind ?_ (fun _ => ?_)
def supercargoref48_Text.T10 : Bool × List (List Nat × List Nat) := (true, [([], []), ([0], [0]), ([], []), ([2], [2]), ([1, 3], [1, 3]), ([4], [4]), ([], []), ([6], [6]), ([5, 7], [5, 7]), ([8], [8]), ([], []), ([10], [10]), ([11], [11]), ([9, 12], [9, 12]), ([13, 12, 0, 1, 2, 3, 4, 5, 6, 7, 8, 9, 10, 11, 12, 13], [0, 13])])
def supercargoref48_Text.B10 : List Nat := [0, 1, 0, 4, 15, 31, 0, 64, 255, 511, 0, 1024, 3072, 8191, 16383]
theorem supercargoref48_Text.tab10 : rtab .any (opsOf Tryd.f7 10) = supercargoref48_Text.T10 := by kernel_rfl
theorem supercargoref48_Text.bits10 : waitsOk supercargoref48_Text.T10.2 supercargoref48_Text.B10 = true := by kernel_rfl
set_option maxHeartbeats 8000000 in
set_option maxRecDepth 100000 in
theorem supercargoref48_Text.calls (k : Nat) (A0 : Option Addr) (c0 : Nat) (l0 : List (S29)) (r : ByteArray) (w : World) (hr0 : Kd.C k29 w A0 l0.length l0) (hc0 : l0.length ≤ c0) (h : supercargoref48_Text.f k l0 = some r) :
    Calls Tryd.prog 7 #[.slice A0 l0.length c0] w fun e w' => e = .returned (.string r) ∧ Below w.heap.size w w' := by
  have hu46 := Tryd.underlying46
  have HR0 := Aside0.mk hr0
  have HC0 := Aside0.mk hc0
  clear hr0 hc0
  have HB := Aside0.mk (Below.refl w.heap.size w)
  have H : (supercargoref48_Text.l0 k l0 (⟨#[]⟩ : ByteArray) 0) = some r := h
  clear h
  have H' := Aside0.mk H
  clear H
  go_enter Tryd.func7, Tryd.ntmps7
  go_wp2
  go_loopg [3, 4] k (fun kq v3 v4 w' => ∃ (x3_1 : ByteArray) (x4_1 : Int), v3 = .string x3_1 ∧ v4 = .int .i64 x4_1 ∧ Aside0 (supercargoref48_Text.l0 kq l0 x3_1 x4_1 = some r) ∧ Aside0 (kq ≤ k) ∧ Aside0 (Below w.heap.size w w'))
  case atStart => exact ⟨((⟨#[]⟩ : ByteArray)), (0), (by first | rfl | (simp; done) | (simp [*]; done)), (by first | rfl | (simp; done) | (simp [*]; done)), H', ⟨Nat.le_refl _⟩, ⟨by repeat (first | (with_reducible first | exact HB.out | apply below_alloc | apply pw_below_drewN | apply below_drew1) | exact HB.out)⟩⟩
  case round =>
    clear H'
    obtain ⟨x3_1, x4_1, rfl, rfl, HA, HK1, HB⟩ := hrel
    cases gk with
    | zero => exact absurd HA.out (by simp [supercargoref48_Text.l0])
    | succ k1 =>
      have H := HA.out
      clear HA
      simp only [supercargoref48_Text.l0] at H
      by_cases c2 : x4_1 < (l0.length : Int)
      · rw [if_pos c2] at H
        have c2b0 : decide (x4_1 < (l0.length : Int)) = true := decide_eq_true c2
        clear c2
        by_cases c3 : 0 ≤ x4_1
        · rw [if_pos c3] at H
          have c3b0 : decide (0 ≤ x4_1) = true := decide_eq_true c3
          clear c3
          replace H := Option.bind_eq_some_iff.mp H
          obtain ⟨t121, A40, H⟩ := H
          replace H : (if x3_1.size + t121.size ≤ 9223372036854775807 then (supercargoref48_Text.l1 k1 l0 (x3_1 ++ t121) x4_1 0) else (none)) = some r := H
          have A4 := Aside0.mk A40
          clear A40
          by_cases c5 : x3_1.size + t121.size ≤ 9223372036854775807
          · rw [if_pos c5] at H
            have c5b0 := eq_true c5
            have c5b1 : decide (x3_1.size + t121.size ≤ 9223372036854775807) = true := decide_eq_true c5
            try have c5b2 : (9223372036854775807 < x3_1.size + t121.size) = False := eq_false (Nat.not_lt.2 c5)
            have H' := Aside0.mk H
            clear H
            have p120 : 0 ≤ (x4_1 : Int) := of_decide_eq_true (by first | (with_reducible assumption) | assumption)
            have q120 : x4_1 < (l0.length : Int) := of_decide_eq_true (by first | (with_reducible assumption) | assumption)
            obtain ⟨ad120, A120_2, c120_2, e120, hx120_0, hx120_1, hx120_2, hl120_2, hi120_2⟩ := at_T29 HR0.out x4_1 p120 q120
            cases e120
            replace hx120_0 := (HB.out.cell (World.block_lt_of_cell? w _ hx120_0)).trans hx120_0
            replace hx120_1 := (HB.out.cell (World.block_lt_of_cell? w _ hx120_1)).trans hx120_1
            replace hx120_2 := (HB.out.cell (World.block_lt_of_cell? w _ hx120_2)).trans hx120_2
            have HR120_2 := Aside0.mk hi120_2
            have HC120_2 := Aside0.mk hl120_2
            clear hi120_2 hl120_2
            replace p120 := eq_true p120
            replace q120 := eq_true q120
            go_wp2_with (first | ((with_reducible refine gate_callee (f := 14) rfl ?_); refine goesL_ (some 19) rfl rfl Tryd.func14 (by kernel_rfl) rfl #[.int .i64 ((rd_T29 l0 x4_1).f0)] rfl (by (try simp only [List.map_toArray, List.map_cons, List.map_nil]); first | done | rfl | (simp only [List.length_drop, List.length_take]; rfl)) ?_; (with_reducible refine (supercargoref48_digits.calls k1 ((rd_T29 l0 x4_1).f0) t121 _ A4.out).mono ?_); rintro e w6 ⟨rfl, hb⟩; refine ⟨_, rfl, ?_⟩; have n0_ := Aside0.mk (below_step (by repeat (first | (with_reducible first | exact HB.out | apply below_alloc | apply pw_below_drewN | apply below_drew1) | exact HB.out)) hb); clear HB; have HB := n0_; clear n0_; (try clear hb); (try clear hb2); (try clear hk); (try clear hi)))
            go_loopg [3, 5] k1 (fun kq v3 v5 w' => ∃ (x3_2 : ByteArray) (x5_2 : Int), v3 = .string x3_2 ∧ v5 = .int .i64 x5_2 ∧ Aside0 (supercargoref48_Text.l1 kq l0 x3_2 x4_1 x5_2 = some r) ∧ Aside0 (kq ≤ k1) ∧ Aside0 (Below w.heap.size w w'))
            case atStart => exact ⟨(x3_1 ++ t121), (0), (by first | rfl | (simp; done) | (simp [*]; done)), (by first | rfl | (simp; done) | (simp [*]; done)), H', ⟨Nat.le_refl _⟩, ⟨by repeat (first | (with_reducible first | exact HB.out | apply below_alloc | apply pw_below_drewN | apply below_drew1) | exact HB.out)⟩⟩
            case round =>
              clear H'
              try clear c1
              try clear p1
              try clear q1
              try clear hx1
              try clear c2
              try clear c2b0
              try clear p2
              try clear c3
              try clear c3b0
              try clear c5
              try clear c5b0
              try clear c5b1
              try clear c5b2
              try clear hx120_0
              try clear hx120_1
              try clear hx120_2
              try clear p120
              try clear q120
              obtain ⟨x3_2, x5_2, rfl, rfl, HA, HK2, HB⟩ := hrel
              cases gk with
              | zero => exact absurd HA.out (by simp [supercargoref48_Text.l1])
              | succ k2 =>
                have H := HA.out
                clear HA
                simp only [supercargoref48_Text.l1] at H
                by_cases c7 : 0 ≤ x4_1
                · rw [if_pos c7] at H
                  have c7b0 : decide (0 ≤ x4_1) = true := decide_eq_true c7
                  clear c7
                  by_cases c8 : x4_1 < (l0.length : Int)
                  · rw [if_pos c8] at H
                    have c8b0 : decide (x4_1 < (l0.length : Int)) = true := decide_eq_true c8
                    clear c8
                    by_cases c9 : x5_2 < (((rd_T29 l0 x4_1).f2).length : Int)
                    · rw [if_pos c9] at H
                      have c9b0 : decide (x5_2 < (((rd_T29 l0 x4_1).f2).length : Int)) = true := decide_eq_true c9
                      clear c9
                      by_cases c10 : 0 ≤ x5_2
                      · rw [if_pos c10] at H
                        have c10b0 : decide (0 ≤ x5_2) = true := decide_eq_true c10
                        clear c10
                        by_cases c11 : x3_2.size + 1 ≤ 9223372036854775807
                        · rw [if_pos c11] at H
                          have c11b0 := eq_true c11
                          have c11b1 : decide (x3_2.size + 1 ≤ 9223372036854775807) = true := decide_eq_true c11
                          try have c11b2 : (9223372036854775807 < x3_2.size + 1) = False := eq_false (Nat.not_lt.2 c11)
                          by_cases c12 : (x3_2 ++ (⟨#[32]⟩ : ByteArray)).size + ((rd_T46 ((rd_T29 l0 x4_1).f2) x5_2).f0).size ≤ 9223372036854775807
                          · rw [if_pos c12] at H
                            have c12b0 := eq_true c12
                            have c12b1 : decide ((x3_2 ++ (⟨#[32]⟩ : ByteArray)).size + ((rd_T46 ((rd_T29 l0 x4_1).f2) x5_2).f0).size ≤ 9223372036854775807) = true := decide_eq_true c12
                            try have c12b2 : (9223372036854775807 < (x3_2 ++ (⟨#[32]⟩ : ByteArray)).size + ((rd_T46 ((rd_T29 l0 x4_1).f2) x5_2).f0).size) = False := eq_false (Nat.not_lt.2 c12)
                            try (have c12b3 := c12b2; simp only [ByteArray.size_append, show (⟨#[32]⟩ : ByteArray).size = 1 from rfl] at c12b3)
                            by_cases c13 : ((x3_2 ++ (⟨#[32]⟩ : ByteArray)) ++ ((rd_T46 ((rd_T29 l0 x4_1).f2) x5_2).f0)).size + 1 ≤ 9223372036854775807
                            · rw [if_pos c13] at H
                              have c13b0 := eq_true c13
                              have c13b1 : decide (((x3_2 ++ (⟨#[32]⟩ : ByteArray)) ++ ((rd_T46 ((rd_T29 l0 x4_1).f2) x5_2).f0)).size + 1 ≤ 9223372036854775807) = true := decide_eq_true c13
                              try have c13b2 : (9223372036854775807 < ((x3_2 ++ (⟨#[32]⟩ : ByteArray)) ++ ((rd_T46 ((rd_T29 l0 x4_1).f2) x5_2).f0)).size + 1) = False := eq_false (Nat.not_lt.2 c13)
                              try (have c13b3 := c13b2; simp only [ByteArray.size_append, show (⟨#[32]⟩ : ByteArray).size = 1 from rfl] at c13b3)
                              by_cases c14 : (((x3_2 ++ (⟨#[32]⟩ : ByteArray)) ++ ((rd_T46 ((rd_T29 l0 x4_1).f2) x5_2).f0)) ++ (⟨#[47]⟩ : ByteArray)).size + ((rd_T46 ((rd_T29 l0 x4_1).f2) x5_2).f1).size ≤ 9223372036854775807
                              · rw [if_pos c14] at H
                                have c14b0 := eq_true c14
                                have c14b1 : decide ((((x3_2 ++ (⟨#[32]⟩ : ByteArray)) ++ ((rd_T46 ((rd_T29 l0 x4_1).f2) x5_2).f0)) ++ (⟨#[47]⟩ : ByteArray)).size + ((rd_T46 ((rd_T29 l0 x4_1).f2) x5_2).f1).size ≤ 9223372036854775807) = true := decide_eq_true c14
                                try have c14b2 : (9223372036854775807 < (((x3_2 ++ (⟨#[32]⟩ : ByteArray)) ++ ((rd_T46 ((rd_T29 l0 x4_1).f2) x5_2).f0)) ++ (⟨#[47]⟩ : ByteArray)).size + ((rd_T46 ((rd_T29 l0 x4_1).f2) x5_2).f1).size) = False := eq_false (Nat.not_lt.2 c14)
                                try (have c14b3 := c14b2; simp only [ByteArray.size_append, show (⟨#[32]⟩ : ByteArray).size = 1 from rfl, show (⟨#[47]⟩ : ByteArray).size = 1 from rfl] at c14b3)
                                by_cases c15 : ((((x3_2 ++ (⟨#[32]⟩ : ByteArray)) ++ ((rd_T46 ((rd_T29 l0 x4_1).f2) x5_2).f0)) ++ (⟨#[47]⟩ : ByteArray)) ++ ((rd_T46 ((rd_T29 l0 x4_1).f2) x5_2).f1)).size + 1 ≤ 9223372036854775807
                                · rw [if_pos c15] at H
                                  have c15b0 := eq_true c15
                                  have c15b1 : decide (((((x3_2 ++ (⟨#[32]⟩ : ByteArray)) ++ ((rd_T46 ((rd_T29 l0 x4_1).f2) x5_2).f0)) ++ (⟨#[47]⟩ : ByteArray)) ++ ((rd_T46 ((rd_T29 l0 x4_1).f2) x5_2).f1)).size + 1 ≤ 9223372036854775807) = true := decide_eq_true c15
                                  try have c15b2 : (9223372036854775807 < ((((x3_2 ++ (⟨#[32]⟩ : ByteArray)) ++ ((rd_T46 ((rd_T29 l0 x4_1).f2) x5_2).f0)) ++ (⟨#[47]⟩ : ByteArray)) ++ ((rd_T46 ((rd_T29 l0 x4_1).f2) x5_2).f1)).size + 1) = False := eq_false (Nat.not_lt.2 c15)
                                  try (have c15b3 := c15b2; simp only [ByteArray.size_append, show (⟨#[32]⟩ : ByteArray).size = 1 from rfl, show (⟨#[47]⟩ : ByteArray).size = 1 from rfl] at c15b3)
                                  replace H := Option.bind_eq_some_iff.mp H
                                  obtain ⟨t126, A160, H⟩ := H
                                  replace H : (if (((((x3_2 ++ (⟨#[32]⟩ : ByteArray)) ++ ((rd_T46 ((rd_T29 l0 x4_1).f2) x5_2).f0)) ++ (⟨#[47]⟩ : ByteArray)) ++ ((rd_T46 ((rd_T29 l0 x4_1).f2) x5_2).f1)) ++ (⟨#[47]⟩ : ByteArray)).size + t126.size ≤ 9223372036854775807 then (supercargoref48_Text.l1 k2 l0 ((((((x3_2 ++ (⟨#[32]⟩ : ByteArray)) ++ ((rd_T46 ((rd_T29 l0 x4_1).f2) x5_2).f0)) ++ (⟨#[47]⟩ : ByteArray)) ++ ((rd_T46 ((rd_T29 l0 x4_1).f2) x5_2).f1)) ++ (⟨#[47]⟩ : ByteArray)) ++ t126) x4_1 (wrap64 (x5_2 + 1))) else (none)) = some r := H
                                  have A16 := Aside0.mk A160
                                  clear A160
                                  by_cases c17 : (((((x3_2 ++ (⟨#[32]⟩ : ByteArray)) ++ ((rd_T46 ((rd_T29 l0 x4_1).f2) x5_2).f0)) ++ (⟨#[47]⟩ : ByteArray)) ++ ((rd_T46 ((rd_T29 l0 x4_1).f2) x5_2).f1)) ++ (⟨#[47]⟩ : ByteArray)).size + t126.size ≤ 9223372036854775807
                                  · rw [if_pos c17] at H
                                    have c17b0 := eq_true c17
                                    have c17b1 : decide ((((((x3_2 ++ (⟨#[32]⟩ : ByteArray)) ++ ((rd_T46 ((rd_T29 l0 x4_1).f2) x5_2).f0)) ++ (⟨#[47]⟩ : ByteArray)) ++ ((rd_T46 ((rd_T29 l0 x4_1).f2) x5_2).f1)) ++ (⟨#[47]⟩ : ByteArray)).size + t126.size ≤ 9223372036854775807) = true := decide_eq_true c17
                                    try have c17b2 : (9223372036854775807 < (((((x3_2 ++ (⟨#[32]⟩ : ByteArray)) ++ ((rd_T46 ((rd_T29 l0 x4_1).f2) x5_2).f0)) ++ (⟨#[47]⟩ : ByteArray)) ++ ((rd_T46 ((rd_T29 l0 x4_1).f2) x5_2).f1)) ++ (⟨#[47]⟩ : ByteArray)).size + t126.size) = False := eq_false (Nat.not_lt.2 c17)
                                    try (have c17b3 := c17b2; simp only [ByteArray.size_append, show (⟨#[32]⟩ : ByteArray).size = 1 from rfl, show (⟨#[47]⟩ : ByteArray).size = 1 from rfl] at c17b3)
                                    have H' := Aside0.mk H
                                    clear H
                                    have p122 : 0 ≤ (x4_1 : Int) := of_decide_eq_true (by first | (with_reducible assumption) | assumption)
                                    have q122 : x4_1 < (l0.length : Int) := of_decide_eq_true (by first | (with_reducible assumption) | assumption)
                                    obtain ⟨ad122, A122_2, c122_2, e122, hx122_0, hx122_1, hx122_2, hl122_2, hi122_2⟩ := at_T29 HR0.out x4_1 p122 q122
                                    obtain rfl : ad120 = ad122 := (by injection e122)
                                    replace hx122_0 := (HB.out.cell (World.block_lt_of_cell? w _ hx122_0)).trans hx122_0
                                    replace hx122_1 := (HB.out.cell (World.block_lt_of_cell? w _ hx122_1)).trans hx122_1
                                    replace hx122_2 := (HB.out.cell (World.block_lt_of_cell? w _ hx122_2)).trans hx122_2
                                    have HR122_2 := Aside0.mk hi122_2
                                    have HC122_2 := Aside0.mk hl122_2
                                    clear hi122_2 hl122_2
                                    replace p122 := eq_true p122
                                    replace q122 := eq_true q122
                                    have p123 : 0 ≤ (x4_1 : Int) := of_decide_eq_true (by first | (with_reducible assumption) | assumption)
                                    have q123 : x4_1 < (l0.length : Int) := of_decide_eq_true (by first | (with_reducible assumption) | assumption)
                                    obtain ⟨ad123, A123_2, c123_2, e123, hx123_0, hx123_1, hx123_2, hl123_2, hi123_2⟩ := at_T29 HR0.out x4_1 p123 q123
                                    obtain rfl : ad120 = ad123 := (by injection e123)
                                    replace hx123_0 := (HB.out.cell (World.block_lt_of_cell? w _ hx123_0)).trans hx123_0
                                    replace hx123_1 := (HB.out.cell (World.block_lt_of_cell? w _ hx123_1)).trans hx123_1
                                    replace hx123_2 := (HB.out.cell (World.block_lt_of_cell? w _ hx123_2)).trans hx123_2
                                    have HR123_2 := Aside0.mk hi123_2
                                    have HC123_2 := Aside0.mk hl123_2
                                    clear hi123_2 hl123_2
                                    replace p123 := eq_true p123
                                    replace q123 := eq_true q123
                                    have ea_ := Option.some.inj (hx122_2.symm.trans hx123_2)
                                    injection ea_ with ea_ en_ ec_
                                    subst ea_
                                    subst ec_
                                    clear en_
                                    have p124 : 0 ≤ (x5_2 : Int) := of_decide_eq_true (by first | (with_reducible assumption) | assumption)
                                    have q124 : x5_2 < (((rd_T29 l0 x4_1).f2).length : Int) := of_decide_eq_true (by first | (with_reducible assumption) | assumption)
                                    obtain ⟨ad124, e124, hx124_0, hx124_1, hx124_2⟩ := at_T46 HR123_2.out x5_2 p124 q124
                                    cases e124
                                    replace hx124_0 := (HB.out.cell (World.block_lt_of_cell? w _ hx124_0)).trans hx124_0
                                    replace hx124_1 := (HB.out.cell (World.block_lt_of_cell? w _ hx124_1)).trans hx124_1
                                    replace hx124_2 := (HB.out.cell (World.block_lt_of_cell? w _ hx124_2)).trans hx124_2
                                    replace p124 := eq_true p124
                                    replace q124 := eq_true q124
                                    try go_wp2_with (first | ((with_reducible refine gate_dst (N := 6) rfl ?_); refine box_event ?hg (N := 6) ?hd (cs := #[.string (⟨#[]⟩ : ByteArray), .string (⟨#[]⟩ : ByteArray), .int .i64 0]) (t := 46) ?hr ?_; (case hd => rfl); (case hg => rfl); (case hr => first | (go_simp; done) | (go_simp; rfl)); intro gb125 hg w18 hbox hb; have n0_ := Aside0.mk (below_step (by repeat (first | (with_reducible first | exact HB.out | apply below_alloc | apply pw_below_drewN | apply below_drew1) | exact HB.out)) hb); have n1_ := Aside0.mk (hbox); have n2_ := Aside0.mk ((by rw [hg]; exact (below_size (by repeat (first | (with_reducible first | exact HB.out | apply below_alloc | apply pw_below_drewN | apply below_drew1) | exact HB.out))) : w.heap.size ≤ gb125)); have n3_ := Aside0.mk ((by rw [hg]; exact (below_size (by repeat (first | (with_reducible first | exact HB.out | apply below_alloc | apply pw_below_drewN | apply below_drew1) | exact HB.out))) : w.heap.size ≤ gb125)); clear HB; have HB := n0_; have BK125 := n1_; have GW125 := n2_; have GE125 := n3_; clear n0_ n1_ n2_ n3_; clear hb hbox hg; have hcz19_0 : w18.cell? ⟨gb125, 0, none⟩ = some (.string (⟨#[]⟩ : ByteArray)) := (blk_cell BK125.out 0).trans rfl; have hcz19_1 : w18.cell? ⟨gb125, 1, none⟩ = some (.string (⟨#[]⟩ : ByteArray)) := (blk_cell BK125.out 1).trans rfl; have hcz19_2 : w18.cell? ⟨gb125, 2, none⟩ = some (.int .i64 0) := (blk_cell BK125.out 2).trans rfl; have hfz19_0 := blk_frozen BK125.out 0; have hfz19_1 := blk_frozen BK125.out 1; have hfz19_2 := blk_frozen BK125.out 2))
                                    have n0_ : Aside0 ((((w18.setCell ⟨gb125, 0, none⟩ (.string ((rd_T46 ((rd_T29 l0 x4_1).f2) x5_2).f0))).setCell ⟨gb125, 1, none⟩ (.string ((rd_T46 ((rd_T29 l0 x4_1).f2) x5_2).f1))).setCell ⟨gb125, 2, none⟩ (.int .i64 ((rd_T46 ((rd_T29 l0 x4_1).f2) x5_2).f2))).heap[gb125]? = some (.cells #[.string ((rd_T46 ((rd_T29 l0 x4_1).f2) x5_2).f0), .string ((rd_T46 ((rd_T29 l0 x4_1).f2) x5_2).f1), .int .i64 ((rd_T46 ((rd_T29 l0 x4_1).f2) x5_2).f2)] 46 (0, 0))) := ⟨by (with_reducible repeat (first | refine blk_drewN ?_ _ | refine blk_drew ?_ | refine blk_alloc ?_ _)); refine blk_put (cs := #[.string ((rd_T46 ((rd_T29 l0 x4_1).f2) x5_2).f0), .string ((rd_T46 ((rd_T29 l0 x4_1).f2) x5_2).f1), .int .i64 0]) ?_ 2 _ rfl; (with_reducible repeat (first | refine blk_drewN ?_ _ | refine blk_drew ?_ | refine blk_alloc ?_ _)); refine blk_put (cs := #[.string ((rd_T46 ((rd_T29 l0 x4_1).f2) x5_2).f0), .string (⟨#[]⟩ : ByteArray), .int .i64 0]) ?_ 1 _ rfl; (with_reducible repeat (first | refine blk_drewN ?_ _ | refine blk_drew ?_ | refine blk_alloc ?_ _)); refine blk_put (cs := #[.string (⟨#[]⟩ : ByteArray), .string (⟨#[]⟩ : ByteArray), .int .i64 0]) ?_ 0 _ rfl; (with_reducible repeat (first | refine blk_drewN ?_ _ | refine blk_drew ?_ | refine blk_alloc ?_ _)); exact BK125.out⟩
                                    have n1_ : Aside0 (Below w.heap.size w (((w18.setCell ⟨gb125, 0, none⟩ (.string ((rd_T46 ((rd_T29 l0 x4_1).f2) x5_2).f0))).setCell ⟨gb125, 1, none⟩ (.string ((rd_T46 ((rd_T29 l0 x4_1).f2) x5_2).f1))).setCell ⟨gb125, 2, none⟩ (.int .i64 ((rd_T46 ((rd_T29 l0 x4_1).f2) x5_2).f2)))) := ⟨by repeat (first | (with_reducible first | exact HB.out | apply below_alloc | apply pw_below_drewN | apply below_drew1 | refine below_set ?_ GE125.out) | exact HB.out)⟩
                                    (try clear BK125)
                                    (try clear HB)
                                    generalize (((w18.setCell ⟨gb125, 0, none⟩ (.string ((rd_T46 ((rd_T29 l0 x4_1).f2) x5_2).f0))).setCell ⟨gb125, 1, none⟩ (.string ((rd_T46 ((rd_T29 l0 x4_1).f2) x5_2).f1))).setCell ⟨gb125, 2, none⟩ (.int .i64 ((rd_T46 ((rd_T29 l0 x4_1).f2) x5_2).f2))) = w20 at n0_ n1_ ⊢
                                    have BK125 := n0_
                                    have HB := n1_
                                    clear n0_ n1_
                                    have n0_ := Aside0.mk (blk_drew BK125.out)
                                    have n1_ := Aside0.mk (below_drew1 HB.out)
                                    clear BK125
                                    clear HB
                                    have BK125 := n0_
                                    have HB := n1_
                                    clear n0_ n1_
                                    refine start_ (n := 15) (S := fun w' => w'.cell? ⟨gb125, 0, none⟩ = some (.string ((rd_T46 ((rd_T29 l0 x4_1).f2) x5_2).f0)) ∧ w'.cell? ⟨gb125, 1, none⟩ = some (.string ((rd_T46 ((rd_T29 l0 x4_1).f2) x5_2).f1)) ∧ w'.cell? ⟨gb125, 2, none⟩ = some (.int .i64 ((rd_T46 ((rd_T29 l0 x4_1).f2) x5_2).f2))) (ds := []) #[false, false, false, false, false, false, false, false, false, false, false, false, false, false, false] (by kernel_rfl) rfl rfl ⟨(blk_cell BK125.out 0).trans rfl, (blk_cell BK125.out 1).trans rfl, (blk_cell BK125.out 2).trans rfl⟩ (fun hHeld => ?_); refine with_tabW supercargoref48_Text.tab10 supercargoref48_Text.bits10 (fun HT_ HW_ => ?_)
                                    generalize w20.drew = w21 at BK125 HB hHeld ⊢
                                    refine pure_ (i := 0) (N := some 39) (v := ?_) (a' := ?_) #[true, false, false, false, false, false, false, false, false, false, false, false, false, false, false] rfl rfl (any_of HT_.out (by kernel_rfl)) (fun _ _ _ h => h) (Or.inl ⟨by rfl, ?_⟩) ?_ ?_
                                    rotate_left
                                    · intro w'
                                      go_simp
                                      with_reducible rfl
                                    rotate_left
                                    · simp only [Act.put, List.setIfInBounds_toArray, List.set_cons_zero, List.set_cons_succ, i64_w, i32_w]
                                      rfl
                                    refine pure_ (i := 1) (N := some 40) (v := ?_) (a' := ?_) #[true, true, false, false, false, false, false, false, false, false, false, false, false, false, false] rfl rfl (any_of HT_.out (by kernel_rfl)) (fun _ _ _ h => h) (Or.inl ⟨by rfl, ?_⟩) ?_ ?_
                                    rotate_left
                                    · intro w'
                                      go_simp
                                      with_reducible rfl
                                    rotate_left
                                    · simp only [Act.put, List.setIfInBounds_toArray, List.set_cons_zero, List.set_cons_succ, i64_w, i32_w]
                                      rfl
                                    refine pure_ (i := 2) (N := some 41) (v := ?_) (a' := ?_) #[true, true, true, false, false, false, false, false, false, false, false, false, false, false, false] rfl rfl (any_of HT_.out (by kernel_rfl)) (fun _ _ _ h => h) (Or.inl ⟨by rfl, ?_⟩) ?_ ?_
                                    rotate_left
                                    · intro w'
                                      go_simp
                                      with_reducible rfl
                                    rotate_left
                                    · simp only [Act.put, List.setIfInBounds_toArray, List.set_cons_zero, List.set_cons_succ, i64_w, i32_w]
                                      rfl
                                    refine pure_ (i := 6) (N := some 45) (v := ?_) (a' := ?_) #[true, true, true, false, false, false, true, false, false, false, false, false, false, false, false] rfl rfl (any_of HT_.out (by kernel_rfl)) (fun _ _ _ h => h) (Or.inl ⟨by rfl, ?_⟩) ?_ ?_
                                    rotate_left
                                    · intro w'
                                      go_simp
                                      with_reducible rfl
                                    rotate_left
                                    · simp only [Act.put, List.setIfInBounds_toArray, List.set_cons_zero, List.set_cons_succ, i64_w, i32_w]
                                      rfl
                                    refine pure_ (i := 10) (N := some 49) (v := ?_) (a' := ?_) #[true, true, true, false, false, false, true, false, false, false, true, false, false, false, false] rfl rfl (any_of HT_.out (by kernel_rfl)) (fun _ _ _ h => h) (Or.inl ⟨by rfl, ?_⟩) ?_ ?_
                                    rotate_left
                                    · intro w'
                                      go_simp
                                      with_reducible rfl
                                    rotate_left
                                    · simp only [Act.put, List.setIfInBounds_toArray, List.set_cons_zero, List.set_cons_succ, i64_w, i32_w]
                                      rfl
                                    refine take_ (i := 3) (N := some 42) (v := ?_) (a' := ?_) #[true, true, true, true, false, false, true, false, false, false, true, false, false, false, false] rfl rfl (take_ofW HT_.out HW_.out (by kernel_rfl)) (fun _ _ _ h => h) (Or.inl ⟨by rfl, ?_⟩) hHeld ?_ ?_
                                    rotate_left
                                    · rintro w' ⟨s0, s1, s2⟩
                                      go_simp
                                      with_reducible rfl
                                    rotate_left
                                    · simp only [Act.put, List.setIfInBounds_toArray, List.set_cons_zero, List.set_cons_succ, i64_w, i32_w]
                                      rfl
                                    refine pure_ (i := 4) (N := some 43) (v := ?_) (a' := ?_) #[true, true, true, true, true, false, true, false, false, false, true, false, false, false, false] rfl rfl (any_of HT_.out (by kernel_rfl)) (fun _ _ _ h => h) (Or.inl ⟨by rfl, ?_⟩) ?_ ?_
                                    rotate_left
                                    · intro w'
                                      go_simp
                                      with_reducible rfl
                                    rotate_left
                                    · simp only [Act.put, List.setIfInBounds_toArray, List.set_cons_zero, List.set_cons_succ, i64_w, i32_w]
                                      rfl
                                    refine pure_ (i := 5) (N := some 44) (v := ?_) (a' := ?_) #[true, true, true, true, true, true, true, false, false, false, true, false, false, false, false] rfl rfl (any_of HT_.out (by kernel_rfl)) (fun _ _ _ h => h) (Or.inl ⟨by rfl, ?_⟩) ?_ ?_
                                    rotate_left
                                    · intro w'
                                      go_simp
                                      with_reducible rfl
                                    rotate_left
                                    · simp only [Act.put, List.setIfInBounds_toArray, List.set_cons_zero, List.set_cons_succ, i64_w, i32_w]
                                      rfl
                                    refine take_ (i := 7) (N := some 46) (v := ?_) (a' := ?_) #[true, true, true, true, true, true, true, true, false, false, true, false, false, false, false] rfl rfl (take_ofW HT_.out HW_.out (by kernel_rfl)) (fun _ _ _ h => h) (Or.inl ⟨by rfl, ?_⟩) hHeld ?_ ?_
                                    rotate_left
                                    · rintro w' ⟨s0, s1, s2⟩
                                      go_simp
                                      with_reducible rfl
                                    rotate_left
                                    · simp only [Act.put, List.setIfInBounds_toArray, List.set_cons_zero, List.set_cons_succ, i64_w, i32_w]
                                      rfl
                                    refine pure_ (i := 8) (N := some 47) (v := ?_) (a' := ?_) #[true, true, true, true, true, true, true, true, true, false, true, false, false, false, false] rfl rfl (any_of HT_.out (by kernel_rfl)) (fun _ _ _ h => h) (Or.inl ⟨by rfl, ?_⟩) ?_ ?_
                                    rotate_left
                                    · intro w'
                                      go_simp
                                      with_reducible rfl
                                    rotate_left
                                    · simp only [Act.put, List.setIfInBounds_toArray, List.set_cons_zero, List.set_cons_succ, i64_w, i32_w]
                                      rfl
                                    refine pure_ (i := 9) (N := some 48) (v := ?_) (a' := ?_) #[true, true, true, true, true, true, true, true, true, true, true, false, false, false, false] rfl rfl (any_of HT_.out (by kernel_rfl)) (fun _ _ _ h => h) (Or.inl ⟨by rfl, ?_⟩) ?_ ?_
                                    rotate_left
                                    · intro w'
                                      go_simp
                                      with_reducible rfl
                                    rotate_left
                                    · simp only [Act.put, List.setIfInBounds_toArray, List.set_cons_zero, List.set_cons_succ, i64_w, i32_w]
                                      rfl
                                    refine take_ (i := 11) (N := some 50) (v := ?_) (a' := ?_) #[true, true, true, true, true, true, true, true, true, true, true, true, false, false, false] rfl rfl (take_ofW HT_.out HW_.out (by kernel_rfl)) (fun _ _ _ h => h) (Or.inl ⟨by rfl, ?_⟩) hHeld ?_ ?_
                                    rotate_left
                                    · rintro w' ⟨s0, s1, s2⟩
                                      go_simp
                                      with_reducible rfl
                                    rotate_left
                                    · simp only [Act.put, List.setIfInBounds_toArray, List.set_cons_zero, List.set_cons_succ, i64_w, i32_w]
                                      rfl
                                    refine one_ (i := 12) (N := some 51) #[true, true, true, true, true, true, true, true, true, true, true, true, true, false, false] rfl rfl (one_of HT_.out (by kernel_rfl)) (by decide) (fun K hK => ?_)
                                    refine goes_ Tryd.func14 (by kernel_rfl) rfl #[.int .i64 ((rd_T46 ((rd_T29 l0 x4_1).f2) x5_2).f2)] (by rfl) rfl rfl (by (try simp only [List.map_toArray, List.map_cons, List.map_nil]); first | done | rfl | (simp only [List.length_drop, List.length_take]; rfl)) ?_
                                    with_reducible refine (supercargoref48_digits.calls k2 ((rd_T46 ((rd_T29 l0 x4_1).f2) x5_2).f2) t126 _ A16.out).mono ?_
                                    rintro e w22 ⟨rfl, hb⟩
                                    refine ⟨_, rfl, ?_⟩
                                    have n0_ := Aside0.mk (blk_below (g := gb125) (o := .cells #[.string ((rd_T46 ((rd_T29 l0 x4_1).f2) x5_2).f0), .string ((rd_T46 ((rd_T29 l0 x4_1).f2) x5_2).f1), .int .i64 ((rd_T46 ((rd_T29 l0 x4_1).f2) x5_2).f2)] 46 (0, 0)) (by (with_reducible repeat (first | refine blk_drewN ?_ _ | refine blk_drew ?_ | refine blk_alloc ?_ _)); exact BK125.out) hb)
                                    have n1_ := Aside0.mk (below_step (by repeat (first | (with_reducible first | exact HB.out | apply below_alloc | apply pw_below_drewN | apply below_drew1 | refine below_set ?_ GE125.out) | exact HB.out)) hb)
                                    clear BK125
                                    clear HB
                                    have BK125 := n0_
                                    have HB := n1_
                                    clear n0_ n1_
                                    (try clear hb)
                                    (try clear hb2)
                                    (try clear hk)
                                    (try clear hi)
                                    refine hK.out _ _ ⟨(blk_cell BK125.out 0).trans rfl, (blk_cell BK125.out 1).trans rfl, (blk_cell BK125.out 2).trans rfl⟩ (fun hHeld => ?_)
                                    clear hK K
                                    refine norm_ (a' := ?_) ?_ ?_
                                    rotate_left
                                    · show Act.put _ (some 51) _ = _
                                      simp only [Act.put, List.setIfInBounds_toArray, List.set_cons_zero, List.set_cons_succ, i64_w, i32_w]
                                      rfl
                                    refine pure_ (i := 13) (N := some 52) (v := ?_) (a' := ?_) #[true, true, true, true, true, true, true, true, true, true, true, true, true, true, false] rfl rfl (any_of HT_.out (by kernel_rfl)) (fun _ _ _ h => h) (Or.inl ⟨by rfl, ?_⟩) ?_ ?_
                                    rotate_left
                                    · intro w'
                                      go_simp
                                      with_reducible rfl
                                    rotate_left
                                    · simp only [Act.put, List.setIfInBounds_toArray, List.set_cons_zero, List.set_cons_succ, i64_w, i32_w]
                                      rfl
                                    refine pure_ (i := 14) (N := some 3) (v := ?_) (a' := ?_) #[true, true, true, true, true, true, true, true, true, true, true, true, true, true, true] rfl rfl (any_of HT_.out (by kernel_rfl)) (fun _ _ _ h => h) (Or.inl ⟨by rfl, ?_⟩) ?_ ?_
                                    rotate_left
                                    · intro w'
                                      go_simp
                                      with_reducible rfl
                                    rotate_left
                                    · simp only [Act.put, List.setIfInBounds_toArray, List.set_cons_zero, List.set_cons_succ, i64_w, i32_w]
                                      rfl
                                    refine done_ (done_of HT_.out (by kernel_rfl)) ?_
                                    try go_wp2
                                    go_roundg k2
                                    case measure => have := HK1.out; have := HK2.out; omega
                                    case rel => exact ⟨((((((x3_2 ++ (⟨#[32]⟩ : ByteArray)) ++ ((rd_T46 ((rd_T29 l0 x4_1).f2) x5_2).f0)) ++ (⟨#[47]⟩ : ByteArray)) ++ ((rd_T46 ((rd_T29 l0 x4_1).f2) x5_2).f1)) ++ (⟨#[47]⟩ : ByteArray)) ++ t126), (wrap64 (x5_2 + 1)), (by first | rfl | (simp; done) | (simp [*]; done)), (by first | rfl | (simp; done) | (simp [*]; done)), H', ⟨by have := HK1.out; have := HK2.out; omega⟩, ⟨by repeat (first | (with_reducible first | exact HB.out | apply below_alloc | apply pw_below_drewN | apply below_drew1 | refine below_set ?_ GE125.out) | exact HB.out)⟩⟩
                                  · rw [if_neg c17] at H
                                    exact absurd H (by simp)
                                · rw [if_neg c15] at H
                                  exact absurd H (by simp)
                              · rw [if_neg c14] at H
                                exact absurd H (by simp)
                            · rw [if_neg c13] at H
                              exact absurd H (by simp)
                          · rw [if_neg c12] at H
                            exact absurd H (by simp)
                        · rw [if_neg c11] at H
                          exact absurd H (by simp)
                      · rw [if_neg c10] at H
                        exact absurd H (by simp)
                    · rw [if_neg c9] at H
                      have c9b0 : decide (x5_2 < (((rd_T29 l0 x4_1).f2).length : Int)) = false := decide_eq_false c9
                      clear c9
                      by_cases c23 : x3_2.size + 1 ≤ 9223372036854775807
                      · rw [if_pos c23] at H
                        have c23b0 := eq_true c23
                        have c23b1 : decide (x3_2.size + 1 ≤ 9223372036854775807) = true := decide_eq_true c23
                        try have c23b2 : (9223372036854775807 < x3_2.size + 1) = False := eq_false (Nat.not_lt.2 c23)
                        by_cases c24 : (x3_2 ++ (⟨#[32]⟩ : ByteArray)).size + ((rd_T29 l0 x4_1).f1).size ≤ 9223372036854775807
                        · rw [if_pos c24] at H
                          have c24b0 := eq_true c24
                          have c24b1 : decide ((x3_2 ++ (⟨#[32]⟩ : ByteArray)).size + ((rd_T29 l0 x4_1).f1).size ≤ 9223372036854775807) = true := decide_eq_true c24
                          try have c24b2 : (9223372036854775807 < (x3_2 ++ (⟨#[32]⟩ : ByteArray)).size + ((rd_T29 l0 x4_1).f1).size) = False := eq_false (Nat.not_lt.2 c24)
                          try (have c24b3 := c24b2; simp only [ByteArray.size_append, show (⟨#[32]⟩ : ByteArray).size = 1 from rfl] at c24b3)
                          by_cases c25 : ((x3_2 ++ (⟨#[32]⟩ : ByteArray)) ++ ((rd_T29 l0 x4_1).f1)).size + 1 ≤ 9223372036854775807
                          · rw [if_pos c25] at H
                            have c25b0 := eq_true c25
                            have c25b1 : decide (((x3_2 ++ (⟨#[32]⟩ : ByteArray)) ++ ((rd_T29 l0 x4_1).f1)).size + 1 ≤ 9223372036854775807) = true := decide_eq_true c25
                            try have c25b2 : (9223372036854775807 < ((x3_2 ++ (⟨#[32]⟩ : ByteArray)) ++ ((rd_T29 l0 x4_1).f1)).size + 1) = False := eq_false (Nat.not_lt.2 c25)
                            try (have c25b3 := c25b2; simp only [ByteArray.size_append, show (⟨#[32]⟩ : ByteArray).size = 1 from rfl] at c25b3)
                            have H' := Aside0.mk H
                            clear H
                            have p122 : 0 ≤ (x4_1 : Int) := of_decide_eq_true (by first | (with_reducible assumption) | assumption)
                            have q122 : x4_1 < (l0.length : Int) := of_decide_eq_true (by first | (with_reducible assumption) | assumption)
                            obtain ⟨ad122, A122_2, c122_2, e122, hx122_0, hx122_1, hx122_2, hl122_2, hi122_2⟩ := at_T29 HR0.out x4_1 p122 q122
                            obtain rfl : ad120 = ad122 := (by injection e122)
                            replace hx122_0 := (HB.out.cell (World.block_lt_of_cell? w _ hx122_0)).trans hx122_0
                            replace hx122_1 := (HB.out.cell (World.block_lt_of_cell? w _ hx122_1)).trans hx122_1
                            replace hx122_2 := (HB.out.cell (World.block_lt_of_cell? w _ hx122_2)).trans hx122_2
                            have HR122_2 := Aside0.mk hi122_2
                            have HC122_2 := Aside0.mk hl122_2
                            clear hi122_2 hl122_2
                            replace p122 := eq_true p122
                            replace q122 := eq_true q122
                            have p127 : 0 ≤ (x4_1 : Int) := of_decide_eq_true (by first | (with_reducible assumption) | assumption)
                            have q127 : x4_1 < (l0.length : Int) := of_decide_eq_true (by first | (with_reducible assumption) | assumption)
                            obtain ⟨ad127, A127_2, c127_2, e127, hx127_0, hx127_1, hx127_2, hl127_2, hi127_2⟩ := at_T29 HR0.out x4_1 p127 q127
                            obtain rfl : ad120 = ad127 := (by injection e127)
                            replace hx127_0 := (HB.out.cell (World.block_lt_of_cell? w _ hx127_0)).trans hx127_0
                            replace hx127_1 := (HB.out.cell (World.block_lt_of_cell? w _ hx127_1)).trans hx127_1
                            replace hx127_2 := (HB.out.cell (World.block_lt_of_cell? w _ hx127_2)).trans hx127_2
                            have HR127_2 := Aside0.mk hi127_2
                            have HC127_2 := Aside0.mk hl127_2
                            clear hi127_2 hl127_2
                            replace p127 := eq_true p127
                            replace q127 := eq_true q127
                            have ea_ := Option.some.inj (hx122_2.symm.trans hx127_2)
                            injection ea_ with ea_ en_ ec_
                            subst ea_
                            subst ec_
                            clear en_
                            go_wp2
                            go_roundg k2
                            case measure => have := HK1.out; have := HK2.out; omega
                            case rel => exact ⟨(((x3_2 ++ (⟨#[32]⟩ : ByteArray)) ++ ((rd_T29 l0 x4_1).f1)) ++ (⟨#[10]⟩ : ByteArray)), (wrap64 (x4_1 + 1)), (by first | rfl | (simp; done) | (simp [*]; done)), (by first | rfl | (simp; done) | (simp [*]; done)), H', ⟨by have := HK1.out; have := HK2.out; omega⟩, ⟨by repeat (first | (with_reducible first | exact HB.out | apply below_alloc | apply pw_below_drewN | apply below_drew1) | exact HB.out)⟩⟩
                          · rw [if_neg c25] at H
                            exact absurd H (by simp)
                        · rw [if_neg c24] at H
                          exact absurd H (by simp)
                      · rw [if_neg c23] at H
                        exact absurd H (by simp)
                  · rw [if_neg c8] at H
                    exact absurd H (by simp)
                · rw [if_neg c7] at H
                  exact absurd H (by simp)
          · rw [if_neg c5] at H
            exact absurd H (by simp)
        · rw [if_neg c3] at H
          exact absurd H (by simp)
      · rw [if_neg c2] at H
        have c2b0 : decide (x4_1 < (l0.length : Int)) = false := decide_eq_false c2
        clear c2
        obtain rfl := Option.some.inj H
        go_wp2
        go_ret
        exact ⟨by first | rfl | (simp [errW_none, errW_some] <;> rfl) | (simp [*, errW_none, errW_some] <;> rfl), by repeat (first | (with_reducible first | exact HB.out | apply below_alloc | apply pw_below_drewN | apply below_drew1) | exact HB.out)⟩

end Go.Proofs.YtaogmbiepbhmoaaDoor.A

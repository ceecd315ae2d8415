/- Contracts of chosen functions of this seat: each answers what its plain function says. (written by print.py, called by pr.sh) -/
import Derived.Test.YtlgcceojnbobeaaDoorAx0
namespace Go.Proofs.YtlgcceojnbobeaaDoor.A
open Go.RowKit Go.Proofs.YtlgcceojnbobeaaDoorW.PrintWords Go.Proofs.YtlgcceojnbobeaaDoorW.PrintLast Go.Proofs.YtlgcceojnbobeaaDoorW.PrintMore
attribute [local go_sem] max2_int min2_int max_two min_two max_three min_three max_four min_four   -- for this text's walks alone
set_option linter.unusedVariables false
set_option linter.unusedSimpArgs false

/-! ### sense_many: function 20 -/
mutual
def sense_many.j0 : Nat → Bool → Int → Int → ByteArray → ByteArray → Int → List (S24) → Option (Int × Bool)
  | 0, _, _, _, _, _, _, _ => none
  | k + 1, x17, x158000, x158001, x158002, x158003, x158004, x158005 => if x17 = true then (some (1, true)) else (sense_many.l0 k (wrap64 (1 - x158000)) true x158005 (x158005.length : Int) 0 x158000 x158001 x158002 x158003 x158004 x158005)
def sense_many.l0 : Nat → Int → Bool → List (S24) → Int → Int → Int → Int → ByteArray → ByteArray → Int → List (S24) → Option (Int × Bool)
  | 0, _, _, _, _, _, _, _, _, _, _, _ => none
  | k + 1, x4, x5, x22, x23, x24, x158000, x158001, x158002, x158003, x158004, x158005 => if x24 < x23 then (if 0 ≤ x24 then (if x24 < (x22.length : Int) then ((sense_many.f k ((rd_T24 x22 x24).f0) ((rd_T24 x22 x24).f1) ((rd_T24 x22 x24).f2) ((rd_T24 x22 x24).f3) ((rd_T24 x22 x24).f4) ((rd_T24 x22 x24).f5)).bind fun bt160 => (if x5 = true then (if x158000 = 0 then (sense_many.l0 k (mn (wrap64 (x4 * bt160.1)) 4097) bt160.2 x22 x23 (wrap64 (x24 + 1)) x158000 x158001 x158002 x158003 x158004 x158005) else (sense_many.l0 k (mn (wrap64 (x4 + bt160.1)) 4097) bt160.2 x22 x23 (wrap64 (x24 + 1)) x158000 x158001 x158002 x158003 x158004 x158005)) else (if x158000 = 0 then (sense_many.l0 k (mn (wrap64 (x4 * bt160.1)) 4097) false x22 x23 (wrap64 (x24 + 1)) x158000 x158001 x158002 x158003 x158004 x158005) else (sense_many.l0 k (mn (wrap64 (x4 + bt160.1)) 4097) false x22 x23 (wrap64 (x24 + 1)) x158000 x158001 x158002 x158003 x158004 x158005)))) else (none)) else (none)) else (if x5 = true then (some (x4, decide (x4 ≤ 4096))) else (some (x4, false)))
def sense_many.f : Nat → Int → Int → ByteArray → ByteArray → Int → List (S24) → Option (Int × Bool)
  | 0, _, _, _, _, _, _ => none
  | k + 1, a0_0, a0_1, a0_2, a0_3, a0_4, l0_5 => if a0_0 = 0 then (sense_many.j0 k false a0_0 a0_1 a0_2 a0_3 a0_4 l0_5) else (sense_many.j0 k (a0_0 != 1) a0_0 a0_1 a0_2 a0_3 a0_4 l0_5)
end
theorem sense_many.mono_l : ∀ k, (∀ y0 y1 y2 y3 y4 y5, LeO (sense_many.f k y0 y1 y2 y3 y4 y5) (sense_many.f (k + 1) y0 y1 y2 y3 y4 y5)) ∧ (∀ y0 y1 y2 y3 y4 y5 y6, LeO (sense_many.j0 k y0 y1 y2 y3 y4 y5 y6) (sense_many.j0 (k + 1) y0 y1 y2 y3 y4 y5 y6)) ∧ (∀ y0 y1 y2 y3 y4 y5 y6 y7 y8 y9 y10, LeO (sense_many.l0 k y0 y1 y2 y3 y4 y5 y6 y7 y8 y9 y10) (sense_many.l0 (k + 1) y0 y1 y2 y3 y4 y5 y6 y7 y8 y9 y10))
  | 0 => ⟨fun _ _ _ _ _ _ r h => by simp [sense_many.f] at h, fun _ _ _ _ _ _ _ r h => by simp [sense_many.j0] at h, fun _ _ _ _ _ _ _ _ _ _ _ r h => by simp [sense_many.l0] at h⟩
  | k + 1 => by
    obtain ⟨ih0, ih1, ih2⟩ := sense_many.mono_l k
    refine ⟨?_, ?_, ?_⟩
    · intro y0 y1 y2 y3 y4 y5
      unfold sense_many.f
      repeat' first
      | (with_reducible exact ih0 _ _ _ _ _ _)
      | (with_reducible exact ih1 _ _ _ _ _ _ _)
      | (with_reducible exact ih2 _ _ _ _ _ _ _ _ _ _ _)
      | (with_reducible exact LeO.refl _)
      | (with_reducible exact LeO.none _)
      | (with_reducible refine LeO.ite ?_ ?_)
      | (with_reducible refine LeO.bind ?_ (fun _ => ?_))
      | exact ih0 _ _ _ _ _ _
      | exact ih1 _ _ _ _ _ _ _
      | exact ih2 _ _ _ _ _ _ _ _ _ _ _
      | exact LeO.none _
      | refine LeO.ite ?_ ?_
      | refine LeO.bind ?_ (fun _ => ?_)
    · intro y0 y1 y2 y3 y4 y5 y6
      unfold sense_many.j0
      repeat' first
      | (with_reducible exact ih0 _ _ _ _ _ _)
      | (with_reducible exact ih1 _ _ _ _ _ _ _)
      | (with_reducible exact ih2 _ _ _ _ _ _ _ _ _ _ _)
      | (with_reducible exact LeO.refl _)
      | (with_reducible exact LeO.none _)
      | (with_reducible refine LeO.ite ?_ ?_)
      | (with_reducible refine LeO.bind ?_ (fun _ => ?_))
      | exact ih0 _ _ _ _ _ _
      | exact ih1 _ _ _ _ _ _ _
      | exact ih2 _ _ _ _ _ _ _ _ _ _ _
      | exact LeO.none _
      | refine LeO.ite ?_ ?_
      | refine LeO.bind ?_ (fun _ => ?_)
    · intro y0 y1 y2 y3 y4 y5 y6 y7 y8 y9 y10
      unfold sense_many.l0
      repeat' first
      | (with_reducible exact ih0 _ _ _ _ _ _)
      | (with_reducible exact ih1 _ _ _ _ _ _ _)
      | (with_reducible exact ih2 _ _ _ _ _ _ _ _ _ _ _)
      | (with_reducible exact LeO.refl _)
      | (with_reducible exact LeO.none _)
      | (with_reducible refine LeO.ite ?_ ?_)
      | (with_reducible refine LeO.bind ?_ (fun _ => ?_))
      | exact ih0 _ _ _ _ _ _
      | exact ih1 _ _ _ _ _ _ _
      | exact ih2 _ _ _ _ _ _ _ _ _ _ _
      | exact LeO.none _
      | refine LeO.ite ?_ ?_
      | refine LeO.bind ?_ (fun _ => ?_)
theorem sense_many.mono : ∀ a0 a1 a2 a3 a4 a5 k, LeO (sense_many.f k a0 a1 a2 a3 a4 a5) (sense_many.f (k + 1) a0 a1 a2 a3 a4 a5) := by
  intro a0 a1 a2 a3 a4 a5 k
  obtain ⟨ih0, ih1, ih2⟩ := sense_many.mono_l k
  exact ih0 a0 a1 a2 a3 a4 a5
set_option maxHeartbeats 8000000 in
set_option maxRecDepth 100000 in
theorem sense_many.calls (k : Nat) : ∀ (a0_0 : Int) (a0_1 : Int) (a0_2 : ByteArray) (a0_3 : ByteArray) (a0_4 : Int) (A0_5 : Option Addr) (c0_5 : Nat) (l0_5 : List (S24)) (r1 : Int) (r2 : Bool) (w : World) (hr0_5 : Kd.C k24 w A0_5 l0_5.length l0_5) (hc0_5 : l0_5.length ≤ c0_5) (h : sense_many.f k a0_0 a0_1 a0_2 a0_3 a0_4 l0_5 = some (r1, r2)),
    Calls Tryd.prog 20 #[.agg #[.int .i64 a0_0, .int .i64 a0_1, .string a0_2, .string a0_3, .int .i64 a0_4, .slice A0_5 l0_5.length c0_5]] w fun e w' => e = .returned (.tuple #[.int .i64 r1, .bool r2]) ∧ Below w.heap.size w w' := by
  induction k using Nat.strongRecOn with
  | _ k ih =>
  intro a0_0 a0_1 a0_2 a0_3 a0_4 A0_5 c0_5 l0_5 r1 r2 w hr0_5 hc0_5 h
  cases k with
  | zero => exact absurd h (by simp [sense_many.f])
  | succ k =>
  simp only [sense_many.f] at h
  have hu24 := Tryd.underlying24
  have HR0_5 := Aside0.mk hr0_5
  have HC0_5 := Aside0.mk hc0_5
  clear hr0_5 hc0_5
  have HB := Aside0.mk (Below.refl w.heap.size w)
  have H : (if a0_0 = 0 then (sense_many.j0 k false a0_0 a0_1 a0_2 a0_3 a0_4 l0_5) else (sense_many.j0 k (a0_0 != 1) a0_0 a0_1 a0_2 a0_3 a0_4 l0_5)) = some (r1, r2) := h
  clear h
  have HC2 := Aside0.mk H
  clear H
  go_enter Tryd.func20, Tryd.ntmps20
  go_upto_region 1 with (first | ((with_reducible refine gate_dst (N := 1) rfl ?_); refine box_event ?hg (N := 1) ?hd (cs := #[.int .i64 a0_0, .int .i64 a0_1, .string a0_2, .string a0_3, .int .i64 a0_4, .slice A0_5 l0_5.length c0_5]) (t := 24) ?hr ?_; (case hd => rfl); (case hg => rfl); (case hr => first | (go_simp; done) | (go_simp; rfl)); intro gb157 hg w3 hbox hb; have n0_ := Aside0.mk (below_step (by repeat (first | (with_reducible first | exact HB.out | apply below_alloc | apply pw_below_drewN | apply below_drew1) | exact HB.out)) hb); have n1_ := Aside0.mk (hbox); have n2_ := Aside0.mk ((by rw [hg]; exact (below_size (by repeat (first | (with_reducible first | exact HB.out | apply below_alloc | apply pw_below_drewN | apply below_drew1) | exact HB.out))) : w.heap.size ≤ gb157)); have n3_ := Aside0.mk ((by rw [hg]; exact (below_size (by repeat (first | (with_reducible first | exact HB.out | apply below_alloc | apply pw_below_drewN | apply below_drew1) | exact HB.out))) : w.heap.size ≤ gb157)); clear HB; have HB := n0_; have BK157 := n1_; have GW157 := n2_; have GE157 := n3_; clear n0_ n1_ n2_ n3_; clear hb hbox hg))
  (try simp only [Act.put, List.setIfInBounds_toArray, List.set_cons_zero, List.set_cons_succ])
  go_cut [17] (fun v17 wc => ∃ (kq : Nat) (x17_1 : Bool), v17 = .bool x17_1 ∧ Aside0 (sense_many.j0 kq x17_1 a0_0 a0_1 a0_2 a0_3 a0_4 l0_5 = some (r1, r2)) ∧ Aside0 (kq ≤ k) ∧ Aside0 (wc.heap[gb157]? = some (.cells #[.int .i64 a0_0, .int .i64 a0_1, .string a0_2, .string a0_3, .int .i64 a0_4, (.slice A0_5 l0_5.length c0_5)] 24 (0, 0))) ∧ Aside0 (Below w.heap.size w wc))
  case first =>
    have H := HC2.out
    clear HC2
    by_cases c4 : a0_0 = 0
    · rw [if_pos c4] at H
      have c4b0 : (a0_0 == 0) = true := beq_iff_eq.mpr c4
      have c4b1 : (a0_0 != 0) = false := bne_eq_false_iff_eq.mpr c4
      clear c4
      (first | rw [c4b0] | (simp only [i64_w, i32_w]; rw [c4b0]) | skip)
      have H' := Aside0.mk H
      clear H
      have hcz5_0 : w3.cell? ⟨gb157, 0, none⟩ = some (.int .i64 a0_0) := (blk_cell BK157.out 0).trans rfl
      have hcz5_1 : w3.cell? ⟨gb157, 1, none⟩ = some (.int .i64 a0_1) := (blk_cell BK157.out 1).trans rfl
      have hcz5_2 : w3.cell? ⟨gb157, 2, none⟩ = some (.string a0_2) := (blk_cell BK157.out 2).trans rfl
      have hcz5_3 : w3.cell? ⟨gb157, 3, none⟩ = some (.string a0_3) := (blk_cell BK157.out 3).trans rfl
      have hcz5_4 : w3.cell? ⟨gb157, 4, none⟩ = some (.int .i64 a0_4) := (blk_cell BK157.out 4).trans rfl
      have hcz5_5 : w3.cell? ⟨gb157, 5, none⟩ = some (.slice A0_5 l0_5.length c0_5) := (blk_cell BK157.out 5).trans rfl
      have hfz5_0 := blk_frozen BK157.out 0
      have hfz5_1 := blk_frozen BK157.out 1
      have hfz5_2 := blk_frozen BK157.out 2
      have hfz5_3 := blk_frozen BK157.out 3
      have hfz5_4 := blk_frozen BK157.out 4
      have hfz5_5 := blk_frozen BK157.out 5
      go_wp2
      go_meet
      case rel => exact ⟨_, (false), (by first | rfl | (simp; done) | (simp [*]; done)), H', ⟨by first | omega | exact Nat.le_refl _⟩, ⟨by (with_reducible repeat (first | refine blk_drewN ?_ _ | refine blk_drew ?_ | refine blk_alloc ?_ _)); exact BK157.out⟩, ⟨by repeat (first | (with_reducible first | exact HB.out | apply below_alloc | apply pw_below_drewN | apply below_drew1 | refine below_set ?_ GE157.out) | exact HB.out)⟩⟩
    · rw [if_neg c4] at H
      have c4b0 : (a0_0 == 0) = false := beq_eq_false_iff_ne.mpr c4
      have c4b1 : (a0_0 != 0) = true := bne_iff_ne.mpr c4
      (first | rw [c4b0] | (simp only [i64_w, i32_w]; rw [c4b0]) | skip)
      have H' := Aside0.mk H
      clear H
      have hcz6_0 : w3.cell? ⟨gb157, 0, none⟩ = some (.int .i64 a0_0) := (blk_cell BK157.out 0).trans rfl
      have hcz6_1 : w3.cell? ⟨gb157, 1, none⟩ = some (.int .i64 a0_1) := (blk_cell BK157.out 1).trans rfl
      have hcz6_2 : w3.cell? ⟨gb157, 2, none⟩ = some (.string a0_2) := (blk_cell BK157.out 2).trans rfl
      have hcz6_3 : w3.cell? ⟨gb157, 3, none⟩ = some (.string a0_3) := (blk_cell BK157.out 3).trans rfl
      have hcz6_4 : w3.cell? ⟨gb157, 4, none⟩ = some (.int .i64 a0_4) := (blk_cell BK157.out 4).trans rfl
      have hcz6_5 : w3.cell? ⟨gb157, 5, none⟩ = some (.slice A0_5 l0_5.length c0_5) := (blk_cell BK157.out 5).trans rfl
      have hfz6_0 := blk_frozen BK157.out 0
      have hfz6_1 := blk_frozen BK157.out 1
      have hfz6_2 := blk_frozen BK157.out 2
      have hfz6_3 := blk_frozen BK157.out 3
      have hfz6_4 := blk_frozen BK157.out 4
      have hfz6_5 := blk_frozen BK157.out 5
      go_wp2
      go_meet
      case rel => exact ⟨_, ((a0_0 != 1)), (by first | rfl | (simp; done) | (simp [*]; done)), H', ⟨by first | omega | exact Nat.le_refl _⟩, ⟨by (with_reducible repeat (first | refine blk_drewN ?_ _ | refine blk_drew ?_ | refine blk_alloc ?_ _)); exact BK157.out⟩, ⟨by repeat (first | (with_reducible first | exact HB.out | apply below_alloc | apply pw_below_drewN | apply below_drew1 | refine below_set ?_ GE157.out) | exact HB.out)⟩⟩
  case rest =>
    clear HC2
    try clear c2
    try clear p2
    try clear c4
    try clear c4b0
    try clear c4b1
    try clear hcz5_0
    try clear hcz5_1
    try clear hcz5_2
    try clear hcz5_3
    try clear hcz5_4
    try clear hcz5_5
    try clear hcz6_0
    try clear hcz6_1
    try clear hcz6_2
    try clear hcz6_3
    try clear hcz6_4
    try clear hcz6_5
    try clear hfz5_0
    try clear hfz5_1
    try clear hfz5_2
    try clear hfz5_3
    try clear hfz5_4
    try clear hfz5_5
    try clear hfz6_0
    try clear hfz6_1
    try clear hfz6_2
    try clear hfz6_3
    try clear hfz6_4
    try clear hfz6_5
    obtain ⟨kq, x17_1, rfl, HA, HJ1, BK157, HB⟩ := hcut
    cases kq with
    | zero => exact absurd HA.out (by simp [sense_many.j0])
    | succ kj1 =>
      have H := HA.out
      clear HA
      simp only [sense_many.j0] at H
      by_cases c7 : x17_1 = true
      · subst c7
        have H1 : (some (1, true)) = some (r1, r2) := by rw [if_pos rfl] at H; exact H
        clear H
        have H := H1
        clear H1
        simp only [Option.some.injEq, Prod.mk.injEq] at H
        obtain ⟨rfl, rfl⟩ := H
        go_wp2
        go_ret2
        exact ⟨by first | rfl | (simp [errW_none, errW_some] <;> rfl) | (simp [*, errW_none, errW_some] <;> rfl), by repeat (first | (with_reducible first | exact HB.out | apply below_alloc | apply pw_below_drewN | apply below_drew1 | refine below_set ?_ GE157.out) | exact HB.out)⟩
      · replace c7 := Bool.eq_false_iff.mpr c7
        subst c7
        have H1 : (sense_many.l0 kj1 (wrap64 (1 - a0_0)) true l0_5 (l0_5.length : Int) 0 a0_0 a0_1 a0_2 a0_3 a0_4 l0_5) = some (r1, r2) := by rw [if_neg (show ¬ (false = true) by decide)] at H; exact H
        clear H
        have H := H1
        clear H1
        have H' := Aside0.mk H
        clear H
        have hcz8_0 : wc.cell? ⟨gb157, 0, none⟩ = some (.int .i64 a0_0) := (blk_cell BK157.out 0).trans rfl
        have hcz8_1 : wc.cell? ⟨gb157, 1, none⟩ = some (.int .i64 a0_1) := (blk_cell BK157.out 1).trans rfl
        have hcz8_2 : wc.cell? ⟨gb157, 2, none⟩ = some (.string a0_2) := (blk_cell BK157.out 2).trans rfl
        have hcz8_3 : wc.cell? ⟨gb157, 3, none⟩ = some (.string a0_3) := (blk_cell BK157.out 3).trans rfl
        have hcz8_4 : wc.cell? ⟨gb157, 4, none⟩ = some (.int .i64 a0_4) := (blk_cell BK157.out 4).trans rfl
        have hcz8_5 : wc.cell? ⟨gb157, 5, none⟩ = some (.slice A0_5 l0_5.length c0_5) := (blk_cell BK157.out 5).trans rfl
        have hfz8_0 := blk_frozen BK157.out 0
        have hfz8_1 := blk_frozen BK157.out 1
        have hfz8_2 := blk_frozen BK157.out 2
        have hfz8_3 := blk_frozen BK157.out 3
        have hfz8_4 := blk_frozen BK157.out 4
        have hfz8_5 := blk_frozen BK157.out 5
        go_wp2
        go_loopg [4, 5, 24] kj1 (fun kq v4 v5 v24 w' => ∃ (x4_2 : Int) (x5_2 : Bool) (x24_2 : Int), v4 = .int .i64 x4_2 ∧ v5 = .bool x5_2 ∧ v24 = .int .i64 x24_2 ∧ Aside0 (sense_many.l0 kq x4_2 x5_2 l0_5 (l0_5.length : Int) x24_2 a0_0 a0_1 a0_2 a0_3 a0_4 l0_5 = some (r1, r2)) ∧ Aside0 (kq ≤ kj1) ∧ Aside0 (w'.heap[gb157]? = some (.cells #[.int .i64 a0_0, .int .i64 a0_1, .string a0_2, .string a0_3, .int .i64 a0_4, (.slice A0_5 l0_5.length c0_5)] 24 (0, 0))) ∧ Aside0 (Below w.heap.size w w'))
        case atStart => exact ⟨(wrap64 (1 - a0_0)), (true), (0), (by first | rfl | (simp; done) | (simp [*]; done)), (by first | rfl | (simp; done) | (simp [*]; done)), (by first | rfl | (simp; done) | (simp [*]; done)), H', ⟨Nat.le_refl _⟩, ⟨by (with_reducible repeat (first | refine blk_drewN ?_ _ | refine blk_drew ?_ | refine blk_alloc ?_ _)); exact BK157.out⟩, ⟨by repeat (first | (with_reducible first | exact HB.out | apply below_alloc | apply pw_below_drewN | apply below_drew1 | refine below_set ?_ GE157.out) | exact HB.out)⟩⟩
        case round =>
          clear H'
          try clear c2
          try clear p2
          try clear c4
          try clear c4b0
          try clear c4b1
          try clear p6
          try clear c7
          try clear hcz5_0
          try clear hcz5_1
          try clear hcz5_2
          try clear hcz5_3
          try clear hcz5_4
          try clear hcz5_5
          try clear hcz6_0
          try clear hcz6_1
          try clear hcz6_2
          try clear hcz6_3
          try clear hcz6_4
          try clear hcz6_5
          try clear hcz8_0
          try clear hcz8_1
          try clear hcz8_2
          try clear hcz8_3
          try clear hcz8_4
          try clear hcz8_5
          try clear hfz5_0
          try clear hfz5_1
          try clear hfz5_2
          try clear hfz5_3
          try clear hfz5_4
          try clear hfz5_5
          try clear hfz6_0
          try clear hfz6_1
          try clear hfz6_2
          try clear hfz6_3
          try clear hfz6_4
          try clear hfz6_5
          try clear hfz8_0
          try clear hfz8_1
          try clear hfz8_2
          try clear hfz8_3
          try clear hfz8_4
          try clear hfz8_5
          try clear p2
          obtain ⟨x4_2, x5_2, x24_2, rfl, rfl, rfl, HA, HK2, BK157, HB⟩ := hrel
          cases gk with
          | zero => exact absurd HA.out (by simp [sense_many.l0])
          | succ k2 =>
            have H := HA.out
            clear HA
            simp only [sense_many.l0] at H
            by_cases c9 : x24_2 < (l0_5.length : Int)
            · rw [if_pos c9] at H
              have c9b0 : decide (x24_2 < (l0_5.length : Int)) = true := decide_eq_true c9
              clear c9
              by_cases c10 : 0 ≤ x24_2
              · rw [if_pos c10] at H
                have c10b0 : decide (0 ≤ x24_2) = true := decide_eq_true c10
                clear c10
                by_cases c11 : x24_2 < (l0_5.length : Int)
                · rw [if_pos c11] at H
                  have c11b0 : decide (x24_2 < (l0_5.length : Int)) = true := decide_eq_true c11
                  clear c11
                  replace H := Option.bind_eq_some_iff.mp H
                  obtain ⟨⟨t160, t161⟩, A120, H⟩ := H
                  replace H : (if x5_2 = true then (if a0_0 = 0 then (sense_many.l0 k2 (mn (wrap64 (x4_2 * t160)) 4097) t161 l0_5 (l0_5.length : Int) (wrap64 (x24_2 + 1)) a0_0 a0_1 a0_2 a0_3 a0_4 l0_5) else (sense_many.l0 k2 (mn (wrap64 (x4_2 + t160)) 4097) t161 l0_5 (l0_5.length : Int) (wrap64 (x24_2 + 1)) a0_0 a0_1 a0_2 a0_3 a0_4 l0_5)) else (if a0_0 = 0 then (sense_many.l0 k2 (mn (wrap64 (x4_2 * t160)) 4097) false l0_5 (l0_5.length : Int) (wrap64 (x24_2 + 1)) a0_0 a0_1 a0_2 a0_3 a0_4 l0_5) else (sense_many.l0 k2 (mn (wrap64 (x4_2 + t160)) 4097) false l0_5 (l0_5.length : Int) (wrap64 (x24_2 + 1)) a0_0 a0_1 a0_2 a0_3 a0_4 l0_5))) = some (r1, r2) := H
                  have A12 := Aside0.mk A120
                  clear A120
                  by_cases c13 : x5_2 = true
                  · subst c13
                    have H1 : (if a0_0 = 0 then (sense_many.l0 k2 (mn (wrap64 (x4_2 * t160)) 4097) t161 l0_5 (l0_5.length : Int) (wrap64 (x24_2 + 1)) a0_0 a0_1 a0_2 a0_3 a0_4 l0_5) else (sense_many.l0 k2 (mn (wrap64 (x4_2 + t160)) 4097) t161 l0_5 (l0_5.length : Int) (wrap64 (x24_2 + 1)) a0_0 a0_1 a0_2 a0_3 a0_4 l0_5)) = some (r1, r2) := by rw [if_pos rfl] at H; exact H
                    clear H
                    have H := H1
                    clear H1
                    by_cases c14 : a0_0 = 0
                    · rw [if_pos c14] at H
                      have c14b0 : (a0_0 == 0) = true := beq_iff_eq.mpr c14
                      have c14b1 : (a0_0 != 0) = false := bne_eq_false_iff_eq.mpr c14
                      clear c14
                      obtain ⟨ji15, hji15⟩ : ∃ j_ : Int, (mn (wrap64 (x4_2 * t160)) 4097) = j_ := ⟨_, rfl⟩
                      replace H : (sense_many.l0 k2 ji15 t161 l0_5 (l0_5.length : Int) (wrap64 (x24_2 + 1)) a0_0 a0_1 a0_2 a0_3 a0_4 l0_5) = some (r1, r2) := by first | (rw [hji15] at H; exact H) | (simp only [hji15] at H ⊢; exact H)
                      (try rw [hji15] at A12)
                      have hji15_ : (if 4097 < (wrap64 (x4_2 * t160)) then 4097 else (wrap64 (x4_2 * t160))) = ji15 := hji15
                      have H' := Aside0.mk H
                      clear H
                      have p158 : 0 ≤ (x24_2 : Int) := of_decide_eq_true (by first | (with_reducible assumption) | assumption)
                      have q158 : x24_2 < (l0_5.length : Int) := of_decide_eq_true (by first | (with_reducible assumption) | assumption)
                      obtain ⟨ad158, A158_5, c158_5, e158, hx158_0, hx158_1, hx158_2, hx158_3, hx158_4, hx158_5, hl158_5, hi158_5⟩ := at_T24 HR0_5.out x24_2 p158 q158
                      cases e158
                      replace hx158_0 := (HB.out.cell (World.block_lt_of_cell? w _ hx158_0)).trans hx158_0
                      replace hx158_1 := (HB.out.cell (World.block_lt_of_cell? w _ hx158_1)).trans hx158_1
                      replace hx158_2 := (HB.out.cell (World.block_lt_of_cell? w _ hx158_2)).trans hx158_2
                      replace hx158_3 := (HB.out.cell (World.block_lt_of_cell? w _ hx158_3)).trans hx158_3
                      replace hx158_4 := (HB.out.cell (World.block_lt_of_cell? w _ hx158_4)).trans hx158_4
                      replace hx158_5 := (HB.out.cell (World.block_lt_of_cell? w _ hx158_5)).trans hx158_5
                      have HR158_5 := Aside0.mk hi158_5
                      have HC158_5 := Aside0.mk hl158_5
                      clear hi158_5 hl158_5
                      replace p158 := eq_true p158
                      replace q158 := eq_true q158
                      go_wp2_with (first | ((with_reducible refine gate_dst (N := 7) rfl ?_); refine box_event ?hg (N := 7) ?hd (cs := #[.int .i64 0, .int .i64 0, .string (⟨#[]⟩ : ByteArray), .string (⟨#[]⟩ : ByteArray), .int .i64 0, .slice none 0 0]) (t := 24) ?hr ?_; (case hd => rfl); (case hg => rfl); (case hr => first | (go_simp; done) | (go_simp; rfl)); intro gb159 hg w16 hbox hb; have n0_ := Aside0.mk (blk_below (g := gb157) (o := .cells #[.int .i64 a0_0, .int .i64 a0_1, .string a0_2, .string a0_3, .int .i64 a0_4, .slice (some ad158) l0_5.length c0_5] 24 (0, 0)) (by (with_reducible repeat (first | refine blk_drewN ?_ _ | refine blk_drew ?_ | refine blk_alloc ?_ _)); exact BK157.out) hb); have n1_ := Aside0.mk (below_step (by repeat (first | (with_reducible first | exact HB.out | apply below_alloc | apply pw_below_drewN | apply below_drew1 | refine below_set ?_ GE157.out) | exact HB.out)) hb); have n2_ := Aside0.mk (hbox); have n3_ := Aside0.mk ((by rw [hg]; exact (below_size (by repeat (first | (with_reducible first | exact HB.out | apply below_alloc | apply pw_below_drewN | apply below_drew1 | refine below_set ?_ GE157.out) | exact HB.out))) : w.heap.size ≤ gb159)); have n4_ := Aside0.mk ((by rw [hg]; exact (below_size (by repeat (first | (with_reducible first | exact HB.out | apply below_alloc | apply pw_below_drewN | apply below_drew1 | refine below_set ?_ GE157.out) | exact HB.out))) : w.heap.size ≤ gb159)); have n5_ := Aside0.mk ((by rw [hg]; exact Nat.ne_of_lt (blk_lt (g := gb157) (o := .cells #[.int .i64 a0_0, .int .i64 a0_1, .string a0_2, .string a0_3, .int .i64 a0_4, .slice (some ad158) l0_5.length c0_5] 24 (0, 0)) (by (with_reducible repeat (first | refine blk_drewN ?_ _ | refine blk_drew ?_ | refine blk_alloc ?_ _)); exact BK157.out)) : gb157 ≠ gb159)); have n6_ := Aside0.mk ((by rw [hg]; exact Nat.ne_of_gt (blk_lt (g := gb157) (o := .cells #[.int .i64 a0_0, .int .i64 a0_1, .string a0_2, .string a0_3, .int .i64 a0_4, .slice (some ad158) l0_5.length c0_5] 24 (0, 0)) (by (with_reducible repeat (first | refine blk_drewN ?_ _ | refine blk_drew ?_ | refine blk_alloc ?_ _)); exact BK157.out)) : gb159 ≠ gb157)); clear BK157; clear HB; have BK157 := n0_; have HB := n1_; have BK159 := n2_; have GW159 := n3_; have GE159 := n4_; have NB157_159 := n5_; have NB159_157 := n6_; clear n0_ n1_ n2_ n3_ n4_ n5_ n6_; clear hb hbox hg; have hnb17 := NB159_157.out; have hnc17 := NB157_159.out; have hcz18_0 : w16.cell? ⟨gb159, 0, none⟩ = some (.int .i64 0) := (blk_cell BK159.out 0).trans rfl; have hcz18_1 : w16.cell? ⟨gb159, 1, none⟩ = some (.int .i64 0) := (blk_cell BK159.out 1).trans rfl; have hcz18_2 : w16.cell? ⟨gb159, 2, none⟩ = some (.string (⟨#[]⟩ : ByteArray)) := (blk_cell BK159.out 2).trans rfl; have hcz18_3 : w16.cell? ⟨gb159, 3, none⟩ = some (.string (⟨#[]⟩ : ByteArray)) := (blk_cell BK159.out 3).trans rfl; have hcz18_4 : w16.cell? ⟨gb159, 4, none⟩ = some (.int .i64 0) := (blk_cell BK159.out 4).trans rfl; have hcz18_5 : w16.cell? ⟨gb159, 5, none⟩ = some (.slice none 0 0) := (blk_cell BK159.out 5).trans rfl; have hfz18_0 := blk_frozen BK159.out 0; have hfz18_1 := blk_frozen BK159.out 1; have hfz18_2 := blk_frozen BK159.out 2; have hfz18_3 := blk_frozen BK159.out 3; have hfz18_4 := blk_frozen BK159.out 4; have hfz18_5 := blk_frozen BK159.out 5) | ((with_reducible refine gate_callee (f := 20) rfl ?_); refine goesL_ (some 30) rfl rfl Tryd.func20 (by kernel_rfl) rfl #[.agg #[.int .i64 ((rd_T24 l0_5 x24_2).f0), .int .i64 ((rd_T24 l0_5 x24_2).f1), .string ((rd_T24 l0_5 x24_2).f2), .string ((rd_T24 l0_5 x24_2).f3), .int .i64 ((rd_T24 l0_5 x24_2).f4), .slice A158_5 ((rd_T24 l0_5 x24_2).f5).length c158_5]] rfl (by (try simp only [List.map_toArray, List.map_cons, List.map_nil]); first | done | rfl | (simp only [List.length_drop, List.length_take]; rfl)) ?_; (with_reducible refine (ih k2 (by have := HJ1.out; have := HK2.out; omega) ((rd_T24 l0_5 x24_2).f0) ((rd_T24 l0_5 x24_2).f1) ((rd_T24 l0_5 x24_2).f2) ((rd_T24 l0_5 x24_2).f3) ((rd_T24 l0_5 x24_2).f4) _ _ ((rd_T24 l0_5 x24_2).f5) t160 t161 _ ?side1 ?side2 A12.out).mono ?_); (case side1 => exact Kd.C_below HR158_5.out (by repeat (first | (with_reducible first | exact HB.out | apply below_alloc | apply pw_below_drewN | apply below_drew1 | refine below_set ?_ GE157.out | refine below_set ?_ GE159.out) | exact HB.out))); (case side2 => exact HC158_5.out); rintro e w19 ⟨rfl, hb⟩; refine ⟨_, rfl, ?_⟩; have n0_ := Aside0.mk (blk_below (g := gb157) (o := .cells #[.int .i64 a0_0, .int .i64 a0_1, .string a0_2, .string a0_3, .int .i64 a0_4, .slice (some ad158) l0_5.length c0_5] 24 (0, 0)) (by (with_reducible repeat (first | refine blk_drewN ?_ _ | refine blk_drew ?_ | refine blk_alloc ?_ _)); refine blk_far ?_ NB157_159.out _; (with_reducible repeat (first | refine blk_drewN ?_ _ | refine blk_drew ?_ | refine blk_alloc ?_ _)); refine blk_far ?_ NB157_159.out _; (with_reducible repeat (first | refine blk_drewN ?_ _ | refine blk_drew ?_ | refine blk_alloc ?_ _)); refine blk_far ?_ NB157_159.out _; (with_reducible repeat (first | refine blk_drewN ?_ _ | refine blk_drew ?_ | refine blk_alloc ?_ _)); refine blk_far ?_ NB157_159.out _; (with_reducible repeat (first | refine blk_drewN ?_ _ | refine blk_drew ?_ | refine blk_alloc ?_ _)); refine blk_far ?_ NB157_159.out _; (with_reducible repeat (first | refine blk_drewN ?_ _ | refine blk_drew ?_ | refine blk_alloc ?_ _)); refine blk_far ?_ NB157_159.out _; (with_reducible repeat (first | refine blk_drewN ?_ _ | refine blk_drew ?_ | refine blk_alloc ?_ _)); exact BK157.out) hb); have n1_ := Aside0.mk (blk_below (g := gb159) (o := .cells #[.int .i64 ((rd_T24 l0_5 x24_2).f0), .int .i64 ((rd_T24 l0_5 x24_2).f1), .string ((rd_T24 l0_5 x24_2).f2), .string ((rd_T24 l0_5 x24_2).f3), .int .i64 ((rd_T24 l0_5 x24_2).f4), .slice A158_5 ((rd_T24 l0_5 x24_2).f5).length c158_5] 24 (0, 0)) (by (with_reducible repeat (first | refine blk_drewN ?_ _ | refine blk_drew ?_ | refine blk_alloc ?_ _)); refine blk_put (cs := #[.int .i64 ((rd_T24 l0_5 x24_2).f0), .int .i64 ((rd_T24 l0_5 x24_2).f1), .string ((rd_T24 l0_5 x24_2).f2), .string ((rd_T24 l0_5 x24_2).f3), .int .i64 ((rd_T24 l0_5 x24_2).f4), .slice none 0 0]) ?_ 5 _ rfl; (with_reducible repeat (first | refine blk_drewN ?_ _ | refine blk_drew ?_ | refine blk_alloc ?_ _)); refine blk_put (cs := #[.int .i64 ((rd_T24 l0_5 x24_2).f0), .int .i64 ((rd_T24 l0_5 x24_2).f1), .string ((rd_T24 l0_5 x24_2).f2), .string ((rd_T24 l0_5 x24_2).f3), .int .i64 0, .slice none 0 0]) ?_ 4 _ rfl; (with_reducible repeat (first | refine blk_drewN ?_ _ | refine blk_drew ?_ | refine blk_alloc ?_ _)); refine blk_put (cs := #[.int .i64 ((rd_T24 l0_5 x24_2).f0), .int .i64 ((rd_T24 l0_5 x24_2).f1), .string ((rd_T24 l0_5 x24_2).f2), .string (⟨#[]⟩ : ByteArray), .int .i64 0, .slice none 0 0]) ?_ 3 _ rfl; (with_reducible repeat (first | refine blk_drewN ?_ _ | refine blk_drew ?_ | refine blk_alloc ?_ _)); refine blk_put (cs := #[.int .i64 ((rd_T24 l0_5 x24_2).f0), .int .i64 ((rd_T24 l0_5 x24_2).f1), .string (⟨#[]⟩ : ByteArray), .string (⟨#[]⟩ : ByteArray), .int .i64 0, .slice none 0 0]) ?_ 2 _ rfl; (with_reducible repeat (first | refine blk_drewN ?_ _ | refine blk_drew ?_ | refine blk_alloc ?_ _)); refine blk_put (cs := #[.int .i64 ((rd_T24 l0_5 x24_2).f0), .int .i64 0, .string (⟨#[]⟩ : ByteArray), .string (⟨#[]⟩ : ByteArray), .int .i64 0, .slice none 0 0]) ?_ 1 _ rfl; (with_reducible repeat (first | refine blk_drewN ?_ _ | refine blk_drew ?_ | refine blk_alloc ?_ _)); refine blk_put (cs := #[.int .i64 0, .int .i64 0, .string (⟨#[]⟩ : ByteArray), .string (⟨#[]⟩ : ByteArray), .int .i64 0, .slice none 0 0]) ?_ 0 _ rfl; (with_reducible repeat (first | refine blk_drewN ?_ _ | refine blk_drew ?_ | refine blk_alloc ?_ _)); exact BK159.out) hb); have n2_ := Aside0.mk (below_step (by repeat (first | (with_reducible first | exact HB.out | apply below_alloc | apply pw_below_drewN | apply below_drew1 | refine below_set ?_ GE157.out | refine below_set ?_ GE159.out) | exact HB.out)) hb); clear BK157; clear BK159; clear HB; have BK157 := n0_; have BK159 := n1_; have HB := n2_; clear n0_ n1_ n2_; (try clear hb); (try clear hb2); (try clear hk); (try clear hi); have hcz20_0 : w19.cell? ⟨gb157, 0, none⟩ = some (.int .i64 a0_0) := (blk_cell BK157.out 0).trans rfl; have hcz20_1 : w19.cell? ⟨gb157, 1, none⟩ = some (.int .i64 a0_1) := (blk_cell BK157.out 1).trans rfl; have hcz20_2 : w19.cell? ⟨gb157, 2, none⟩ = some (.string a0_2) := (blk_cell BK157.out 2).trans rfl; have hcz20_3 : w19.cell? ⟨gb157, 3, none⟩ = some (.string a0_3) := (blk_cell BK157.out 3).trans rfl; have hcz20_4 : w19.cell? ⟨gb157, 4, none⟩ = some (.int .i64 a0_4) := (blk_cell BK157.out 4).trans rfl; have hcz20_5 : w19.cell? ⟨gb157, 5, none⟩ = some (.slice (some ad158) l0_5.length c0_5) := (blk_cell BK157.out 5).trans rfl; have hfz20_0 := blk_frozen BK157.out 0; have hfz20_1 := blk_frozen BK157.out 1; have hfz20_2 := blk_frozen BK157.out 2; have hfz20_3 := blk_frozen BK157.out 3; have hfz20_4 := blk_frozen BK157.out 4; have hfz20_5 := blk_frozen BK157.out 5))
                      go_roundg k2
                      case measure => have := HJ1.out; have := HK2.out; omega
                      case rel => exact ⟨(ji15), (t161), (wrap64 (x24_2 + 1)), (by first | rfl | (simp; done) | (simp only [← hji15] <;> (first | rfl | simp)) | (simp [*]; done)), (by first | rfl | (simp; done) | (simp [*]; done)), (by first | rfl | (simp; done) | (simp [*]; done)), H', ⟨by have := HJ1.out; have := HK2.out; omega⟩, ⟨by (with_reducible repeat (first | refine blk_drewN ?_ _ | refine blk_drew ?_ | refine blk_alloc ?_ _)); exact BK157.out⟩, ⟨by repeat (first | (with_reducible first | exact HB.out | apply below_alloc | apply pw_below_drewN | apply below_drew1 | refine below_set ?_ GE157.out | refine below_set ?_ GE159.out) | exact HB.out)⟩⟩
                    · rw [if_neg c14] at H
                      have c14b0 : (a0_0 == 0) = false := beq_eq_false_iff_ne.mpr c14
                      have c14b1 : (a0_0 != 0) = true := bne_iff_ne.mpr c14
                      obtain ⟨ji21, hji21⟩ : ∃ j_ : Int, (mn (wrap64 (x4_2 + t160)) 4097) = j_ := ⟨_, rfl⟩
                      replace H : (sense_many.l0 k2 ji21 t161 l0_5 (l0_5.length : Int) (wrap64 (x24_2 + 1)) a0_0 a0_1 a0_2 a0_3 a0_4 l0_5) = some (r1, r2) := by first | (rw [hji21] at H; exact H) | (simp only [hji21] at H ⊢; exact H)
                      (try rw [hji21] at A12)
                      have hji21_ : (if 4097 < (wrap64 (x4_2 + t160)) then 4097 else (wrap64 (x4_2 + t160))) = ji21 := hji21
                      have H' := Aside0.mk H
                      clear H
                      have p158 : 0 ≤ (x24_2 : Int) := of_decide_eq_true (by first | (with_reducible assumption) | assumption)
                      have q158 : x24_2 < (l0_5.length : Int) := of_decide_eq_true (by first | (with_reducible assumption) | assumption)
                      obtain ⟨ad158, A158_5, c158_5, e158, hx158_0, hx158_1, hx158_2, hx158_3, hx158_4, hx158_5, hl158_5, hi158_5⟩ := at_T24 HR0_5.out x24_2 p158 q158
                      cases e158
                      replace hx158_0 := (HB.out.cell (World.block_lt_of_cell? w _ hx158_0)).trans hx158_0
                      replace hx158_1 := (HB.out.cell (World.block_lt_of_cell? w _ hx158_1)).trans hx158_1
                      replace hx158_2 := (HB.out.cell (World.block_lt_of_cell? w _ hx158_2)).trans hx158_2
                      replace hx158_3 := (HB.out.cell (World.block_lt_of_cell? w _ hx158_3)).trans hx158_3
                      replace hx158_4 := (HB.out.cell (World.block_lt_of_cell? w _ hx158_4)).trans hx158_4
                      replace hx158_5 := (HB.out.cell (World.block_lt_of_cell? w _ hx158_5)).trans hx158_5
                      have HR158_5 := Aside0.mk hi158_5
                      have HC158_5 := Aside0.mk hl158_5
                      clear hi158_5 hl158_5
                      replace p158 := eq_true p158
                      replace q158 := eq_true q158
                      go_wp2_with (first | ((with_reducible refine gate_dst (N := 7) rfl ?_); refine box_event ?hg (N := 7) ?hd (cs := #[.int .i64 0, .int .i64 0, .string (⟨#[]⟩ : ByteArray), .string (⟨#[]⟩ : ByteArray), .int .i64 0, .slice none 0 0]) (t := 24) ?hr ?_; (case hd => rfl); (case hg => rfl); (case hr => first | (go_simp; done) | (go_simp; rfl)); intro gb159 hg w22 hbox hb; have n0_ := Aside0.mk (blk_below (g := gb157) (o := .cells #[.int .i64 a0_0, .int .i64 a0_1, .string a0_2, .string a0_3, .int .i64 a0_4, .slice (some ad158) l0_5.length c0_5] 24 (0, 0)) (by (with_reducible repeat (first | refine blk_drewN ?_ _ | refine blk_drew ?_ | refine blk_alloc ?_ _)); exact BK157.out) hb); have n1_ := Aside0.mk (below_step (by repeat (first | (with_reducible first | exact HB.out | apply below_alloc | apply pw_below_drewN | apply below_drew1 | refine below_set ?_ GE157.out) | exact HB.out)) hb); have n2_ := Aside0.mk (hbox); have n3_ := Aside0.mk ((by rw [hg]; exact (below_size (by repeat (first | (with_reducible first | exact HB.out | apply below_alloc | apply pw_below_drewN | apply below_drew1 | refine below_set ?_ GE157.out) | exact HB.out))) : w.heap.size ≤ gb159)); have n4_ := Aside0.mk ((by rw [hg]; exact (below_size (by repeat (first | (with_reducible first | exact HB.out | apply below_alloc | apply pw_below_drewN | apply below_drew1 | refine below_set ?_ GE157.out) | exact HB.out))) : w.heap.size ≤ gb159)); have n5_ := Aside0.mk ((by rw [hg]; exact Nat.ne_of_lt (blk_lt (g := gb157) (o := .cells #[.int .i64 a0_0, .int .i64 a0_1, .string a0_2, .string a0_3, .int .i64 a0_4, .slice (some ad158) l0_5.length c0_5] 24 (0, 0)) (by (with_reducible repeat (first | refine blk_drewN ?_ _ | refine blk_drew ?_ | refine blk_alloc ?_ _)); exact BK157.out)) : gb157 ≠ gb159)); have n6_ := Aside0.mk ((by rw [hg]; exact Nat.ne_of_gt (blk_lt (g := gb157) (o := .cells #[.int .i64 a0_0, .int .i64 a0_1, .string a0_2, .string a0_3, .int .i64 a0_4, .slice (some ad158) l0_5.length c0_5] 24 (0, 0)) (by (with_reducible repeat (first | refine blk_drewN ?_ _ | refine blk_drew ?_ | refine blk_alloc ?_ _)); exact BK157.out)) : gb159 ≠ gb157)); clear BK157; clear HB; have BK157 := n0_; have HB := n1_; have BK159 := n2_; have GW159 := n3_; have GE159 := n4_; have NB157_159 := n5_; have NB159_157 := n6_; clear n0_ n1_ n2_ n3_ n4_ n5_ n6_; clear hb hbox hg; have hnb23 := NB159_157.out; have hnc23 := NB157_159.out; have hcz24_0 : w22.cell? ⟨gb159, 0, none⟩ = some (.int .i64 0) := (blk_cell BK159.out 0).trans rfl; have hcz24_1 : w22.cell? ⟨gb159, 1, none⟩ = some (.int .i64 0) := (blk_cell BK159.out 1).trans rfl; have hcz24_2 : w22.cell? ⟨gb159, 2, none⟩ = some (.string (⟨#[]⟩ : ByteArray)) := (blk_cell BK159.out 2).trans rfl; have hcz24_3 : w22.cell? ⟨gb159, 3, none⟩ = some (.string (⟨#[]⟩ : ByteArray)) := (blk_cell BK159.out 3).trans rfl; have hcz24_4 : w22.cell? ⟨gb159, 4, none⟩ = some (.int .i64 0) := (blk_cell BK159.out 4).trans rfl; have hcz24_5 : w22.cell? ⟨gb159, 5, none⟩ = some (.slice none 0 0) := (blk_cell BK159.out 5).trans rfl; have hfz24_0 := blk_frozen BK159.out 0; have hfz24_1 := blk_frozen BK159.out 1; have hfz24_2 := blk_frozen BK159.out 2; have hfz24_3 := blk_frozen BK159.out 3; have hfz24_4 := blk_frozen BK159.out 4; have hfz24_5 := blk_frozen BK159.out 5) | ((with_reducible refine gate_callee (f := 20) rfl ?_); refine goesL_ (some 30) rfl rfl Tryd.func20 (by kernel_rfl) rfl #[.agg #[.int .i64 ((rd_T24 l0_5 x24_2).f0), .int .i64 ((rd_T24 l0_5 x24_2).f1), .string ((rd_T24 l0_5 x24_2).f2), .string ((rd_T24 l0_5 x24_2).f3), .int .i64 ((rd_T24 l0_5 x24_2).f4), .slice A158_5 ((rd_T24 l0_5 x24_2).f5).length c158_5]] rfl (by (try simp only [List.map_toArray, List.map_cons, List.map_nil]); first | done | rfl | (simp only [List.length_drop, List.length_take]; rfl)) ?_; (with_reducible refine (ih k2 (by have := HJ1.out; have := HK2.out; omega) ((rd_T24 l0_5 x24_2).f0) ((rd_T24 l0_5 x24_2).f1) ((rd_T24 l0_5 x24_2).f2) ((rd_T24 l0_5 x24_2).f3) ((rd_T24 l0_5 x24_2).f4) _ _ ((rd_T24 l0_5 x24_2).f5) t160 t161 _ ?side1 ?side2 A12.out).mono ?_); (case side1 => exact Kd.C_below HR158_5.out (by repeat (first | (with_reducible first | exact HB.out | apply below_alloc | apply pw_below_drewN | apply below_drew1 | refine below_set ?_ GE157.out | refine below_set ?_ GE159.out) | exact HB.out))); (case side2 => exact HC158_5.out); rintro e w25 ⟨rfl, hb⟩; refine ⟨_, rfl, ?_⟩; have n0_ := Aside0.mk (blk_below (g := gb157) (o := .cells #[.int .i64 a0_0, .int .i64 a0_1, .string a0_2, .string a0_3, .int .i64 a0_4, .slice (some ad158) l0_5.length c0_5] 24 (0, 0)) (by (with_reducible repeat (first | refine blk_drewN ?_ _ | refine blk_drew ?_ | refine blk_alloc ?_ _)); refine blk_far ?_ NB157_159.out _; (with_reducible repeat (first | refine blk_drewN ?_ _ | refine blk_drew ?_ | refine blk_alloc ?_ _)); refine blk_far ?_ NB157_159.out _; (with_reducible repeat (first | refine blk_drewN ?_ _ | refine blk_drew ?_ | refine blk_alloc ?_ _)); refine blk_far ?_ NB157_159.out _; (with_reducible repeat (first | refine blk_drewN ?_ _ | refine blk_drew ?_ | refine blk_alloc ?_ _)); refine blk_far ?_ NB157_159.out _; (with_reducible repeat (first | refine blk_drewN ?_ _ | refine blk_drew ?_ | refine blk_alloc ?_ _)); refine blk_far ?_ NB157_159.out _; (with_reducible repeat (first | refine blk_drewN ?_ _ | refine blk_drew ?_ | refine blk_alloc ?_ _)); refine blk_far ?_ NB157_159.out _; (with_reducible repeat (first | refine blk_drewN ?_ _ | refine blk_drew ?_ | refine blk_alloc ?_ _)); exact BK157.out) hb); have n1_ := Aside0.mk (blk_below (g := gb159) (o := .cells #[.int .i64 ((rd_T24 l0_5 x24_2).f0), .int .i64 ((rd_T24 l0_5 x24_2).f1), .string ((rd_T24 l0_5 x24_2).f2), .string ((rd_T24 l0_5 x24_2).f3), .int .i64 ((rd_T24 l0_5 x24_2).f4), .slice A158_5 ((rd_T24 l0_5 x24_2).f5).length c158_5] 24 (0, 0)) (by (with_reducible repeat (first | refine blk_drewN ?_ _ | refine blk_drew ?_ | refine blk_alloc ?_ _)); refine blk_put (cs := #[.int .i64 ((rd_T24 l0_5 x24_2).f0), .int .i64 ((rd_T24 l0_5 x24_2).f1), .string ((rd_T24 l0_5 x24_2).f2), .string ((rd_T24 l0_5 x24_2).f3), .int .i64 ((rd_T24 l0_5 x24_2).f4), .slice none 0 0]) ?_ 5 _ rfl; (with_reducible repeat (first | refine blk_drewN ?_ _ | refine blk_drew ?_ | refine blk_alloc ?_ _)); refine blk_put (cs := #[.int .i64 ((rd_T24 l0_5 x24_2).f0), .int .i64 ((rd_T24 l0_5 x24_2).f1), .string ((rd_T24 l0_5 x24_2).f2), .string ((rd_T24 l0_5 x24_2).f3), .int .i64 0, .slice none 0 0]) ?_ 4 _ rfl; (with_reducible repeat (first | refine blk_drewN ?_ _ | refine blk_drew ?_ | refine blk_alloc ?_ _)); refine blk_put (cs := #[.int .i64 ((rd_T24 l0_5 x24_2).f0), .int .i64 ((rd_T24 l0_5 x24_2).f1), .string ((rd_T24 l0_5 x24_2).f2), .string (⟨#[]⟩ : ByteArray), .int .i64 0, .slice none 0 0]) ?_ 3 _ rfl; (with_reducible repeat (first | refine blk_drewN ?_ _ | refine blk_drew ?_ | refine blk_alloc ?_ _)); refine blk_put (cs := #[.int .i64 ((rd_T24 l0_5 x24_2).f0), .int .i64 ((rd_T24 l0_5 x24_2).f1), .string (⟨#[]⟩ : ByteArray), .string (⟨#[]⟩ : ByteArray), .int .i64 0, .slice none 0 0]) ?_ 2 _ rfl; (with_reducible repeat (first | refine blk_drewN ?_ _ | refine blk_drew ?_ | refine blk_alloc ?_ _)); refine blk_put (cs := #[.int .i64 ((rd_T24 l0_5 x24_2).f0), .int .i64 0, .string (⟨#[]⟩ : ByteArray), .string (⟨#[]⟩ : ByteArray), .int .i64 0, .slice none 0 0]) ?_ 1 _ rfl; (with_reducible repeat (first | refine blk_drewN ?_ _ | refine blk_drew ?_ | refine blk_alloc ?_ _)); refine blk_put (cs := #[.int .i64 0, .int .i64 0, .string (⟨#[]⟩ : ByteArray), .string (⟨#[]⟩ : ByteArray), .int .i64 0, .slice none 0 0]) ?_ 0 _ rfl; (with_reducible repeat (first | refine blk_drewN ?_ _ | refine blk_drew ?_ | refine blk_alloc ?_ _)); exact BK159.out) hb); have n2_ := Aside0.mk (below_step (by repeat (first | (with_reducible first | exact HB.out | apply below_alloc | apply pw_below_drewN | apply below_drew1 | refine below_set ?_ GE157.out | refine below_set ?_ GE159.out) | exact HB.out)) hb); clear BK157; clear BK159; clear HB; have BK157 := n0_; have BK159 := n1_; have HB := n2_; clear n0_ n1_ n2_; (try clear hb); (try clear hb2); (try clear hk); (try clear hi); have hcz26_0 : w25.cell? ⟨gb157, 0, none⟩ = some (.int .i64 a0_0) := (blk_cell BK157.out 0).trans rfl; have hcz26_1 : w25.cell? ⟨gb157, 1, none⟩ = some (.int .i64 a0_1) := (blk_cell BK157.out 1).trans rfl; have hcz26_2 : w25.cell? ⟨gb157, 2, none⟩ = some (.string a0_2) := (blk_cell BK157.out 2).trans rfl; have hcz26_3 : w25.cell? ⟨gb157, 3, none⟩ = some (.string a0_3) := (blk_cell BK157.out 3).trans rfl; have hcz26_4 : w25.cell? ⟨gb157, 4, none⟩ = some (.int .i64 a0_4) := (blk_cell BK157.out 4).trans rfl; have hcz26_5 : w25.cell? ⟨gb157, 5, none⟩ = some (.slice (some ad158) l0_5.length c0_5) := (blk_cell BK157.out 5).trans rfl; have hfz26_0 := blk_frozen BK157.out 0; have hfz26_1 := blk_frozen BK157.out 1; have hfz26_2 := blk_frozen BK157.out 2; have hfz26_3 := blk_frozen BK157.out 3; have hfz26_4 := blk_frozen BK157.out 4; have hfz26_5 := blk_frozen BK157.out 5))
                      go_roundg k2
                      case measure => have := HJ1.out; have := HK2.out; omega
                      case rel => exact ⟨(ji21), (t161), (wrap64 (x24_2 + 1)), (by first | rfl | (simp; done) | (simp only [← hji21] <;> (first | rfl | simp)) | (simp [*]; done)), (by first | rfl | (simp; done) | (simp [*]; done)), (by first | rfl | (simp; done) | (simp [*]; done)), H', ⟨by have := HJ1.out; have := HK2.out; omega⟩, ⟨by (with_reducible repeat (first | refine blk_drewN ?_ _ | refine blk_drew ?_ | refine blk_alloc ?_ _)); exact BK157.out⟩, ⟨by repeat (first | (with_reducible first | exact HB.out | apply below_alloc | apply pw_below_drewN | apply below_drew1 | refine below_set ?_ GE157.out | refine below_set ?_ GE159.out) | exact HB.out)⟩⟩
                  · replace c13 := Bool.eq_false_iff.mpr c13
                    subst c13
                    have H1 : (if a0_0 = 0 then (sense_many.l0 k2 (mn (wrap64 (x4_2 * t160)) 4097) false l0_5 (l0_5.length : Int) (wrap64 (x24_2 + 1)) a0_0 a0_1 a0_2 a0_3 a0_4 l0_5) else (sense_many.l0 k2 (mn (wrap64 (x4_2 + t160)) 4097) false l0_5 (l0_5.length : Int) (wrap64 (x24_2 + 1)) a0_0 a0_1 a0_2 a0_3 a0_4 l0_5)) = some (r1, r2) := by rw [if_neg (show ¬ (false = true) by decide)] at H; exact H
                    clear H
                    have H := H1
                    clear H1
                    by_cases c27 : a0_0 = 0
                    · rw [if_pos c27] at H
                      have c27b0 : (a0_0 == 0) = true := beq_iff_eq.mpr c27
                      have c27b1 : (a0_0 != 0) = false := bne_eq_false_iff_eq.mpr c27
                      clear c27
                      obtain ⟨ji28, hji28⟩ : ∃ j_ : Int, (mn (wrap64 (x4_2 * t160)) 4097) = j_ := ⟨_, rfl⟩
                      replace H : (sense_many.l0 k2 ji28 false l0_5 (l0_5.length : Int) (wrap64 (x24_2 + 1)) a0_0 a0_1 a0_2 a0_3 a0_4 l0_5) = some (r1, r2) := by first | (rw [hji28] at H; exact H) | (simp only [hji28] at H ⊢; exact H)
                      (try rw [hji28] at A12)
                      have hji28_ : (if 4097 < (wrap64 (x4_2 * t160)) then 4097 else (wrap64 (x4_2 * t160))) = ji28 := hji28
                      have H' := Aside0.mk H
                      clear H
                      have p158 : 0 ≤ (x24_2 : Int) := of_decide_eq_true (by first | (with_reducible assumption) | assumption)
                      have q158 : x24_2 < (l0_5.length : Int) := of_decide_eq_true (by first | (with_reducible assumption) | assumption)
                      obtain ⟨ad158, A158_5, c158_5, e158, hx158_0, hx158_1, hx158_2, hx158_3, hx158_4, hx158_5, hl158_5, hi158_5⟩ := at_T24 HR0_5.out x24_2 p158 q158
                      cases e158
                      replace hx158_0 := (HB.out.cell (World.block_lt_of_cell? w _ hx158_0)).trans hx158_0
                      replace hx158_1 := (HB.out.cell (World.block_lt_of_cell? w _ hx158_1)).trans hx158_1
                      replace hx158_2 := (HB.out.cell (World.block_lt_of_cell? w _ hx158_2)).trans hx158_2
                      replace hx158_3 := (HB.out.cell (World.block_lt_of_cell? w _ hx158_3)).trans hx158_3
                      replace hx158_4 := (HB.out.cell (World.block_lt_of_cell? w _ hx158_4)).trans hx158_4
                      replace hx158_5 := (HB.out.cell (World.block_lt_of_cell? w _ hx158_5)).trans hx158_5
                      have HR158_5 := Aside0.mk hi158_5
                      have HC158_5 := Aside0.mk hl158_5
                      clear hi158_5 hl158_5
                      replace p158 := eq_true p158
                      replace q158 := eq_true q158
                      go_wp2_with (first | ((with_reducible refine gate_dst (N := 7) rfl ?_); refine box_event ?hg (N := 7) ?hd (cs := #[.int .i64 0, .int .i64 0, .string (⟨#[]⟩ : ByteArray), .string (⟨#[]⟩ : ByteArray), .int .i64 0, .slice none 0 0]) (t := 24) ?hr ?_; (case hd => rfl); (case hg => rfl); (case hr => first | (go_simp; done) | (go_simp; rfl)); intro gb159 hg w29 hbox hb; have n0_ := Aside0.mk (blk_below (g := gb157) (o := .cells #[.int .i64 a0_0, .int .i64 a0_1, .string a0_2, .string a0_3, .int .i64 a0_4, .slice (some ad158) l0_5.length c0_5] 24 (0, 0)) (by (with_reducible repeat (first | refine blk_drewN ?_ _ | refine blk_drew ?_ | refine blk_alloc ?_ _)); exact BK157.out) hb); have n1_ := Aside0.mk (below_step (by repeat (first | (with_reducible first | exact HB.out | apply below_alloc | apply pw_below_drewN | apply below_drew1 | refine below_set ?_ GE157.out) | exact HB.out)) hb); have n2_ := Aside0.mk (hbox); have n3_ := Aside0.mk ((by rw [hg]; exact (below_size (by repeat (first | (with_reducible first | exact HB.out | apply below_alloc | apply pw_below_drewN | apply below_drew1 | refine below_set ?_ GE157.out) | exact HB.out))) : w.heap.size ≤ gb159)); have n4_ := Aside0.mk ((by rw [hg]; exact (below_size (by repeat (first | (with_reducible first | exact HB.out | apply below_alloc | apply pw_below_drewN | apply below_drew1 | refine below_set ?_ GE157.out) | exact HB.out))) : w.heap.size ≤ gb159)); have n5_ := Aside0.mk ((by rw [hg]; exact Nat.ne_of_lt (blk_lt (g := gb157) (o := .cells #[.int .i64 a0_0, .int .i64 a0_1, .string a0_2, .string a0_3, .int .i64 a0_4, .slice (some ad158) l0_5.length c0_5] 24 (0, 0)) (by (with_reducible repeat (first | refine blk_drewN ?_ _ | refine blk_drew ?_ | refine blk_alloc ?_ _)); exact BK157.out)) : gb157 ≠ gb159)); have n6_ := Aside0.mk ((by rw [hg]; exact Nat.ne_of_gt (blk_lt (g := gb157) (o := .cells #[.int .i64 a0_0, .int .i64 a0_1, .string a0_2, .string a0_3, .int .i64 a0_4, .slice (some ad158) l0_5.length c0_5] 24 (0, 0)) (by (with_reducible repeat (first | refine blk_drewN ?_ _ | refine blk_drew ?_ | refine blk_alloc ?_ _)); exact BK157.out)) : gb159 ≠ gb157)); clear BK157; clear HB; have BK157 := n0_; have HB := n1_; have BK159 := n2_; have GW159 := n3_; have GE159 := n4_; have NB157_159 := n5_; have NB159_157 := n6_; clear n0_ n1_ n2_ n3_ n4_ n5_ n6_; clear hb hbox hg; have hnb30 := NB159_157.out; have hnc30 := NB157_159.out; have hcz31_0 : w29.cell? ⟨gb159, 0, none⟩ = some (.int .i64 0) := (blk_cell BK159.out 0).trans rfl; have hcz31_1 : w29.cell? ⟨gb159, 1, none⟩ = some (.int .i64 0) := (blk_cell BK159.out 1).trans rfl; have hcz31_2 : w29.cell? ⟨gb159, 2, none⟩ = some (.string (⟨#[]⟩ : ByteArray)) := (blk_cell BK159.out 2).trans rfl; have hcz31_3 : w29.cell? ⟨gb159, 3, none⟩ = some (.string (⟨#[]⟩ : ByteArray)) := (blk_cell BK159.out 3).trans rfl; have hcz31_4 : w29.cell? ⟨gb159, 4, none⟩ = some (.int .i64 0) := (blk_cell BK159.out 4).trans rfl; have hcz31_5 : w29.cell? ⟨gb159, 5, none⟩ = some (.slice none 0 0) := (blk_cell BK159.out 5).trans rfl; have hfz31_0 := blk_frozen BK159.out 0; have hfz31_1 := blk_frozen BK159.out 1; have hfz31_2 := blk_frozen BK159.out 2; have hfz31_3 := blk_frozen BK159.out 3; have hfz31_4 := blk_frozen BK159.out 4; have hfz31_5 := blk_frozen BK159.out 5) | ((with_reducible refine gate_callee (f := 20) rfl ?_); refine goesL_ (some 30) rfl rfl Tryd.func20 (by kernel_rfl) rfl #[.agg #[.int .i64 ((rd_T24 l0_5 x24_2).f0), .int .i64 ((rd_T24 l0_5 x24_2).f1), .string ((rd_T24 l0_5 x24_2).f2), .string ((rd_T24 l0_5 x24_2).f3), .int .i64 ((rd_T24 l0_5 x24_2).f4), .slice A158_5 ((rd_T24 l0_5 x24_2).f5).length c158_5]] rfl (by (try simp only [List.map_toArray, List.map_cons, List.map_nil]); first | done | rfl | (simp only [List.length_drop, List.length_take]; rfl)) ?_; (with_reducible refine (ih k2 (by have := HJ1.out; have := HK2.out; omega) ((rd_T24 l0_5 x24_2).f0) ((rd_T24 l0_5 x24_2).f1) ((rd_T24 l0_5 x24_2).f2) ((rd_T24 l0_5 x24_2).f3) ((rd_T24 l0_5 x24_2).f4) _ _ ((rd_T24 l0_5 x24_2).f5) t160 t161 _ ?side1 ?side2 A12.out).mono ?_); (case side1 => exact Kd.C_below HR158_5.out (by repeat (first | (with_reducible first | exact HB.out | apply below_alloc | apply pw_below_drewN | apply below_drew1 | refine below_set ?_ GE157.out | refine below_set ?_ GE159.out) | exact HB.out))); (case side2 => exact HC158_5.out); rintro e w32 ⟨rfl, hb⟩; refine ⟨_, rfl, ?_⟩; have n0_ := Aside0.mk (blk_below (g := gb157) (o := .cells #[.int .i64 a0_0, .int .i64 a0_1, .string a0_2, .string a0_3, .int .i64 a0_4, .slice (some ad158) l0_5.length c0_5] 24 (0, 0)) (by (with_reducible repeat (first | refine blk_drewN ?_ _ | refine blk_drew ?_ | refine blk_alloc ?_ _)); refine blk_far ?_ NB157_159.out _; (with_reducible repeat (first | refine blk_drewN ?_ _ | refine blk_drew ?_ | refine blk_alloc ?_ _)); refine blk_far ?_ NB157_159.out _; (with_reducible repeat (first | refine blk_drewN ?_ _ | refine blk_drew ?_ | refine blk_alloc ?_ _)); refine blk_far ?_ NB157_159.out _; (with_reducible repeat (first | refine blk_drewN ?_ _ | refine blk_drew ?_ | refine blk_alloc ?_ _)); refine blk_far ?_ NB157_159.out _; (with_reducible repeat (first | refine blk_drewN ?_ _ | refine blk_drew ?_ | refine blk_alloc ?_ _)); refine blk_far ?_ NB157_159.out _; (with_reducible repeat (first | refine blk_drewN ?_ _ | refine blk_drew ?_ | refine blk_alloc ?_ _)); refine blk_far ?_ NB157_159.out _; (with_reducible repeat (first | refine blk_drewN ?_ _ | refine blk_drew ?_ | refine blk_alloc ?_ _)); exact BK157.out) hb); have n1_ := Aside0.mk (blk_below (g := gb159) (o := .cells #[.int .i64 ((rd_T24 l0_5 x24_2).f0), .int .i64 ((rd_T24 l0_5 x24_2).f1), .string ((rd_T24 l0_5 x24_2).f2), .string ((rd_T24 l0_5 x24_2).f3), .int .i64 ((rd_T24 l0_5 x24_2).f4), .slice A158_5 ((rd_T24 l0_5 x24_2).f5).length c158_5] 24 (0, 0)) (by (with_reducible repeat (first | refine blk_drewN ?_ _ | refine blk_drew ?_ | refine blk_alloc ?_ _)); refine blk_put (cs := #[.int .i64 ((rd_T24 l0_5 x24_2).f0), .int .i64 ((rd_T24 l0_5 x24_2).f1), .string ((rd_T24 l0_5 x24_2).f2), .string ((rd_T24 l0_5 x24_2).f3), .int .i64 ((rd_T24 l0_5 x24_2).f4), .slice none 0 0]) ?_ 5 _ rfl; (with_reducible repeat (first | refine blk_drewN ?_ _ | refine blk_drew ?_ | refine blk_alloc ?_ _)); refine blk_put (cs := #[.int .i64 ((rd_T24 l0_5 x24_2).f0), .int .i64 ((rd_T24 l0_5 x24_2).f1), .string ((rd_T24 l0_5 x24_2).f2), .string ((rd_T24 l0_5 x24_2).f3), .int .i64 0, .slice none 0 0]) ?_ 4 _ rfl; (with_reducible repeat (first | refine blk_drewN ?_ _ | refine blk_drew ?_ | refine blk_alloc ?_ _)); refine blk_put (cs := #[.int .i64 ((rd_T24 l0_5 x24_2).f0), .int .i64 ((rd_T24 l0_5 x24_2).f1), .string ((rd_T24 l0_5 x24_2).f2), .string (⟨#[]⟩ : ByteArray), .int .i64 0, .slice none 0 0]) ?_ 3 _ rfl; (with_reducible repeat (first | refine blk_drewN ?_ _ | refine blk_drew ?_ | refine blk_alloc ?_ _)); refine blk_put (cs := #[.int .i64 ((rd_T24 l0_5 x24_2).f0), .int .i64 ((rd_T24 l0_5 x24_2).f1), .string (⟨#[]⟩ : ByteArray), .string (⟨#[]⟩ : ByteArray), .int .i64 0, .slice none 0 0]) ?_ 2 _ rfl; (with_reducible repeat (first | refine blk_drewN ?_ _ | refine blk_drew ?_ | refine blk_alloc ?_ _)); refine blk_put (cs := #[.int .i64 ((rd_T24 l0_5 x24_2).f0), .int .i64 0, .string (⟨#[]⟩ : ByteArray), .string (⟨#[]⟩ : ByteArray), .int .i64 0, .slice none 0 0]) ?_ 1 _ rfl; (with_reducible repeat (first | refine blk_drewN ?_ _ | refine blk_drew ?_ | refine blk_alloc ?_ _)); refine blk_put (cs := #[.int .i64 0, .int .i64 0, .string (⟨#[]⟩ : ByteArray), .string (⟨#[]⟩ : ByteArray), .int .i64 0, .slice none 0 0]) ?_ 0 _ rfl; (with_reducible repeat (first | refine blk_drewN ?_ _ | refine blk_drew ?_ | refine blk_alloc ?_ _)); exact BK159.out) hb); have n2_ := Aside0.mk (below_step (by repeat (first | (with_reducible first | exact HB.out | apply below_alloc | apply pw_below_drewN | apply below_drew1 | refine below_set ?_ GE157.out | refine below_set ?_ GE159.out) | exact HB.out)) hb); clear BK157; clear BK159; clear HB; have BK157 := n0_; have BK159 := n1_; have HB := n2_; clear n0_ n1_ n2_; (try clear hb); (try clear hb2); (try clear hk); (try clear hi); have hcz33_0 : w32.cell? ⟨gb157, 0, none⟩ = some (.int .i64 a0_0) := (blk_cell BK157.out 0).trans rfl; have hcz33_1 : w32.cell? ⟨gb157, 1, none⟩ = some (.int .i64 a0_1) := (blk_cell BK157.out 1).trans rfl; have hcz33_2 : w32.cell? ⟨gb157, 2, none⟩ = some (.string a0_2) := (blk_cell BK157.out 2).trans rfl; have hcz33_3 : w32.cell? ⟨gb157, 3, none⟩ = some (.string a0_3) := (blk_cell BK157.out 3).trans rfl; have hcz33_4 : w32.cell? ⟨gb157, 4, none⟩ = some (.int .i64 a0_4) := (blk_cell BK157.out 4).trans rfl; have hcz33_5 : w32.cell? ⟨gb157, 5, none⟩ = some (.slice (some ad158) l0_5.length c0_5) := (blk_cell BK157.out 5).trans rfl; have hfz33_0 := blk_frozen BK157.out 0; have hfz33_1 := blk_frozen BK157.out 1; have hfz33_2 := blk_frozen BK157.out 2; have hfz33_3 := blk_frozen BK157.out 3; have hfz33_4 := blk_frozen BK157.out 4; have hfz33_5 := blk_frozen BK157.out 5))
                      go_roundg k2
                      case measure => have := HJ1.out; have := HK2.out; omega
                      case rel => exact ⟨(ji28), (false), (wrap64 (x24_2 + 1)), (by first | rfl | (simp; done) | (simp only [← hji28] <;> (first | rfl | simp)) | (simp [*]; done)), (by first | rfl | (simp; done) | (simp [*]; done)), (by first | rfl | (simp; done) | (simp [*]; done)), H', ⟨by have := HJ1.out; have := HK2.out; omega⟩, ⟨by (with_reducible repeat (first | refine blk_drewN ?_ _ | refine blk_drew ?_ | refine blk_alloc ?_ _)); exact BK157.out⟩, ⟨by repeat (first | (with_reducible first | exact HB.out | apply below_alloc | apply pw_below_drewN | apply below_drew1 | refine below_set ?_ GE157.out | refine below_set ?_ GE159.out) | exact HB.out)⟩⟩
                    · rw [if_neg c27] at H
                      have c27b0 : (a0_0 == 0) = false := beq_eq_false_iff_ne.mpr c27
                      have c27b1 : (a0_0 != 0) = true := bne_iff_ne.mpr c27
                      obtain ⟨ji34, hji34⟩ : ∃ j_ : Int, (mn (wrap64 (x4_2 + t160)) 4097) = j_ := ⟨_, rfl⟩
                      replace H : (sense_many.l0 k2 ji34 false l0_5 (l0_5.length : Int) (wrap64 (x24_2 + 1)) a0_0 a0_1 a0_2 a0_3 a0_4 l0_5) = some (r1, r2) := by first | (rw [hji34] at H; exact H) | (simp only [hji34] at H ⊢; exact H)
                      (try rw [hji34] at A12)
                      have hji34_ : (if 4097 < (wrap64 (x4_2 + t160)) then 4097 else (wrap64 (x4_2 + t160))) = ji34 := hji34
                      have H' := Aside0.mk H
                      clear H
                      have p158 : 0 ≤ (x24_2 : Int) := of_decide_eq_true (by first | (with_reducible assumption) | assumption)
                      have q158 : x24_2 < (l0_5.length : Int) := of_decide_eq_true (by first | (with_reducible assumption) | assumption)
                      obtain ⟨ad158, A158_5, c158_5, e158, hx158_0, hx158_1, hx158_2, hx158_3, hx158_4, hx158_5, hl158_5, hi158_5⟩ := at_T24 HR0_5.out x24_2 p158 q158
                      cases e158
                      replace hx158_0 := (HB.out.cell (World.block_lt_of_cell? w _ hx158_0)).trans hx158_0
                      replace hx158_1 := (HB.out.cell (World.block_lt_of_cell? w _ hx158_1)).trans hx158_1
                      replace hx158_2 := (HB.out.cell (World.block_lt_of_cell? w _ hx158_2)).trans hx158_2
                      replace hx158_3 := (HB.out.cell (World.block_lt_of_cell? w _ hx158_3)).trans hx158_3
                      replace hx158_4 := (HB.out.cell (World.block_lt_of_cell? w _ hx158_4)).trans hx158_4
                      replace hx158_5 := (HB.out.cell (World.block_lt_of_cell? w _ hx158_5)).trans hx158_5
                      have HR158_5 := Aside0.mk hi158_5
                      have HC158_5 := Aside0.mk hl158_5
                      clear hi158_5 hl158_5
                      replace p158 := eq_true p158
                      replace q158 := eq_true q158
                      go_wp2_with (first | ((with_reducible refine gate_dst (N := 7) rfl ?_); refine box_event ?hg (N := 7) ?hd (cs := #[.int .i64 0, .int .i64 0, .string (⟨#[]⟩ : ByteArray), .string (⟨#[]⟩ : ByteArray), .int .i64 0, .slice none 0 0]) (t := 24) ?hr ?_; (case hd => rfl); (case hg => rfl); (case hr => first | (go_simp; done) | (go_simp; rfl)); intro gb159 hg w35 hbox hb; have n0_ := Aside0.mk (blk_below (g := gb157) (o := .cells #[.int .i64 a0_0, .int .i64 a0_1, .string a0_2, .string a0_3, .int .i64 a0_4, .slice (some ad158) l0_5.length c0_5] 24 (0, 0)) (by (with_reducible repeat (first | refine blk_drewN ?_ _ | refine blk_drew ?_ | refine blk_alloc ?_ _)); exact BK157.out) hb); have n1_ := Aside0.mk (below_step (by repeat (first | (with_reducible first | exact HB.out | apply below_alloc | apply pw_below_drewN | apply below_drew1 | refine below_set ?_ GE157.out) | exact HB.out)) hb); have n2_ := Aside0.mk (hbox); have n3_ := Aside0.mk ((by rw [hg]; exact (below_size (by repeat (first | (with_reducible first | exact HB.out | apply below_alloc | apply pw_below_drewN | apply below_drew1 | refine below_set ?_ GE157.out) | exact HB.out))) : w.heap.size ≤ gb159)); have n4_ := Aside0.mk ((by rw [hg]; exact (below_size (by repeat (first | (with_reducible first | exact HB.out | apply below_alloc | apply pw_below_drewN | apply below_drew1 | refine below_set ?_ GE157.out) | exact HB.out))) : w.heap.size ≤ gb159)); have n5_ := Aside0.mk ((by rw [hg]; exact Nat.ne_of_lt (blk_lt (g := gb157) (o := .cells #[.int .i64 a0_0, .int .i64 a0_1, .string a0_2, .string a0_3, .int .i64 a0_4, .slice (some ad158) l0_5.length c0_5] 24 (0, 0)) (by (with_reducible repeat (first | refine blk_drewN ?_ _ | refine blk_drew ?_ | refine blk_alloc ?_ _)); exact BK157.out)) : gb157 ≠ gb159)); have n6_ := Aside0.mk ((by rw [hg]; exact Nat.ne_of_gt (blk_lt (g := gb157) (o := .cells #[.int .i64 a0_0, .int .i64 a0_1, .string a0_2, .string a0_3, .int .i64 a0_4, .slice (some ad158) l0_5.length c0_5] 24 (0, 0)) (by (with_reducible repeat (first | refine blk_drewN ?_ _ | refine blk_drew ?_ | refine blk_alloc ?_ _)); exact BK157.out)) : gb159 ≠ gb157)); clear BK157; clear HB; have BK157 := n0_; have HB := n1_; have BK159 := n2_; have GW159 := n3_; have GE159 := n4_; have NB157_159 := n5_; have NB159_157 := n6_; clear n0_ n1_ n2_ n3_ n4_ n5_ n6_; clear hb hbox hg; have hnb36 := NB159_157.out; have hnc36 := NB157_159.out; have hcz37_0 : w35.cell? ⟨gb159, 0, none⟩ = some (.int .i64 0) := (blk_cell BK159.out 0).trans rfl; have hcz37_1 : w35.cell? ⟨gb159, 1, none⟩ = some (.int .i64 0) := (blk_cell BK159.out 1).trans rfl; have hcz37_2 : w35.cell? ⟨gb159, 2, none⟩ = some (.string (⟨#[]⟩ : ByteArray)) := (blk_cell BK159.out 2).trans rfl; have hcz37_3 : w35.cell? ⟨gb159, 3, none⟩ = some (.string (⟨#[]⟩ : ByteArray)) := (blk_cell BK159.out 3).trans rfl; have hcz37_4 : w35.cell? ⟨gb159, 4, none⟩ = some (.int .i64 0) := (blk_cell BK159.out 4).trans rfl; have hcz37_5 : w35.cell? ⟨gb159, 5, none⟩ = some (.slice none 0 0) := (blk_cell BK159.out 5).trans rfl; have hfz37_0 := blk_frozen BK159.out 0; have hfz37_1 := blk_frozen BK159.out 1; have hfz37_2 := blk_frozen BK159.out 2; have hfz37_3 := blk_frozen BK159.out 3; have hfz37_4 := blk_frozen BK159.out 4; have hfz37_5 := blk_frozen BK159.out 5) | ((with_reducible refine gate_callee (f := 20) rfl ?_); refine goesL_ (some 30) rfl rfl Tryd.func20 (by kernel_rfl) rfl #[.agg #[.int .i64 ((rd_T24 l0_5 x24_2).f0), .int .i64 ((rd_T24 l0_5 x24_2).f1), .string ((rd_T24 l0_5 x24_2).f2), .string ((rd_T24 l0_5 x24_2).f3), .int .i64 ((rd_T24 l0_5 x24_2).f4), .slice A158_5 ((rd_T24 l0_5 x24_2).f5).length c158_5]] rfl (by (try simp only [List.map_toArray, List.map_cons, List.map_nil]); first | done | rfl | (simp only [List.length_drop, List.length_take]; rfl)) ?_; (with_reducible refine (ih k2 (by have := HJ1.out; have := HK2.out; omega) ((rd_T24 l0_5 x24_2).f0) ((rd_T24 l0_5 x24_2).f1) ((rd_T24 l0_5 x24_2).f2) ((rd_T24 l0_5 x24_2).f3) ((rd_T24 l0_5 x24_2).f4) _ _ ((rd_T24 l0_5 x24_2).f5) t160 t161 _ ?side1 ?side2 A12.out).mono ?_); (case side1 => exact Kd.C_below HR158_5.out (by repeat (first | (with_reducible first | exact HB.out | apply below_alloc | apply pw_below_drewN | apply below_drew1 | refine below_set ?_ GE157.out | refine below_set ?_ GE159.out) | exact HB.out))); (case side2 => exact HC158_5.out); rintro e w38 ⟨rfl, hb⟩; refine ⟨_, rfl, ?_⟩; have n0_ := Aside0.mk (blk_below (g := gb157) (o := .cells #[.int .i64 a0_0, .int .i64 a0_1, .string a0_2, .string a0_3, .int .i64 a0_4, .slice (some ad158) l0_5.length c0_5] 24 (0, 0)) (by (with_reducible repeat (first | refine blk_drewN ?_ _ | refine blk_drew ?_ | refine blk_alloc ?_ _)); refine blk_far ?_ NB157_159.out _; (with_reducible repeat (first | refine blk_drewN ?_ _ | refine blk_drew ?_ | refine blk_alloc ?_ _)); refine blk_far ?_ NB157_159.out _; (with_reducible repeat (first | refine blk_drewN ?_ _ | refine blk_drew ?_ | refine blk_alloc ?_ _)); refine blk_far ?_ NB157_159.out _; (with_reducible repeat (first | refine blk_drewN ?_ _ | refine blk_drew ?_ | refine blk_alloc ?_ _)); refine blk_far ?_ NB157_159.out _; (with_reducible repeat (first | refine blk_drewN ?_ _ | refine blk_drew ?_ | refine blk_alloc ?_ _)); refine blk_far ?_ NB157_159.out _; (with_reducible repeat (first | refine blk_drewN ?_ _ | refine blk_drew ?_ | refine blk_alloc ?_ _)); refine blk_far ?_ NB157_159.out _; (with_reducible repeat (first | refine blk_drewN ?_ _ | refine blk_drew ?_ | refine blk_alloc ?_ _)); exact BK157.out) hb); have n1_ := Aside0.mk (blk_below (g := gb159) (o := .cells #[.int .i64 ((rd_T24 l0_5 x24_2).f0), .int .i64 ((rd_T24 l0_5 x24_2).f1), .string ((rd_T24 l0_5 x24_2).f2), .string ((rd_T24 l0_5 x24_2).f3), .int .i64 ((rd_T24 l0_5 x24_2).f4), .slice A158_5 ((rd_T24 l0_5 x24_2).f5).length c158_5] 24 (0, 0)) (by (with_reducible repeat (first | refine blk_drewN ?_ _ | refine blk_drew ?_ | refine blk_alloc ?_ _)); refine blk_put (cs := #[.int .i64 ((rd_T24 l0_5 x24_2).f0), .int .i64 ((rd_T24 l0_5 x24_2).f1), .string ((rd_T24 l0_5 x24_2).f2), .string ((rd_T24 l0_5 x24_2).f3), .int .i64 ((rd_T24 l0_5 x24_2).f4), .slice none 0 0]) ?_ 5 _ rfl; (with_reducible repeat (first | refine blk_drewN ?_ _ | refine blk_drew ?_ | refine blk_alloc ?_ _)); refine blk_put (cs := #[.int .i64 ((rd_T24 l0_5 x24_2).f0), .int .i64 ((rd_T24 l0_5 x24_2).f1), .string ((rd_T24 l0_5 x24_2).f2), .string ((rd_T24 l0_5 x24_2).f3), .int .i64 0, .slice none 0 0]) ?_ 4 _ rfl; (with_reducible repeat (first | refine blk_drewN ?_ _ | refine blk_drew ?_ | refine blk_alloc ?_ _)); refine blk_put (cs := #[.int .i64 ((rd_T24 l0_5 x24_2).f0), .int .i64 ((rd_T24 l0_5 x24_2).f1), .string ((rd_T24 l0_5 x24_2).f2), .string (⟨#[]⟩ : ByteArray), .int .i64 0, .slice none 0 0]) ?_ 3 _ rfl; (with_reducible repeat (first | refine blk_drewN ?_ _ | refine blk_drew ?_ | refine blk_alloc ?_ _)); refine blk_put (cs := #[.int .i64 ((rd_T24 l0_5 x24_2).f0), .int .i64 ((rd_T24 l0_5 x24_2).f1), .string (⟨#[]⟩ : ByteArray), .string (⟨#[]⟩ : ByteArray), .int .i64 0, .slice none 0 0]) ?_ 2 _ rfl; (with_reducible repeat (first | refine blk_drewN ?_ _ | refine blk_drew ?_ | refine blk_alloc ?_ _)); refine blk_put (cs := #[.int .i64 ((rd_T24 l0_5 x24_2).f0), .int .i64 0, .string (⟨#[]⟩ : ByteArray), .string (⟨#[]⟩ : ByteArray), .int .i64 0, .slice none 0 0]) ?_ 1 _ rfl; (with_reducible repeat (first | refine blk_drewN ?_ _ | refine blk_drew ?_ | refine blk_alloc ?_ _)); refine blk_put (cs := #[.int .i64 0, .int .i64 0, .string (⟨#[]⟩ : ByteArray), .string (⟨#[]⟩ : ByteArray), .int .i64 0, .slice none 0 0]) ?_ 0 _ rfl; (with_reducible repeat (first | refine blk_drewN ?_ _ | refine blk_drew ?_ | refine blk_alloc ?_ _)); exact BK159.out) hb); have n2_ := Aside0.mk (below_step (by repeat (first | (with_reducible first | exact HB.out | apply below_alloc | apply pw_below_drewN | apply below_drew1 | refine below_set ?_ GE157.out | refine below_set ?_ GE159.out) | exact HB.out)) hb); clear BK157; clear BK159; clear HB; have BK157 := n0_; have BK159 := n1_; have HB := n2_; clear n0_ n1_ n2_; (try clear hb); (try clear hb2); (try clear hk); (try clear hi); have hcz39_0 : w38.cell? ⟨gb157, 0, none⟩ = some (.int .i64 a0_0) := (blk_cell BK157.out 0).trans rfl; have hcz39_1 : w38.cell? ⟨gb157, 1, none⟩ = some (.int .i64 a0_1) := (blk_cell BK157.out 1).trans rfl; have hcz39_2 : w38.cell? ⟨gb157, 2, none⟩ = some (.string a0_2) := (blk_cell BK157.out 2).trans rfl; have hcz39_3 : w38.cell? ⟨gb157, 3, none⟩ = some (.string a0_3) := (blk_cell BK157.out 3).trans rfl; have hcz39_4 : w38.cell? ⟨gb157, 4, none⟩ = some (.int .i64 a0_4) := (blk_cell BK157.out 4).trans rfl; have hcz39_5 : w38.cell? ⟨gb157, 5, none⟩ = some (.slice (some ad158) l0_5.length c0_5) := (blk_cell BK157.out 5).trans rfl; have hfz39_0 := blk_frozen BK157.out 0; have hfz39_1 := blk_frozen BK157.out 1; have hfz39_2 := blk_frozen BK157.out 2; have hfz39_3 := blk_frozen BK157.out 3; have hfz39_4 := blk_frozen BK157.out 4; have hfz39_5 := blk_frozen BK157.out 5))
                      go_roundg k2
                      case measure => have := HJ1.out; have := HK2.out; omega
                      case rel => exact ⟨(ji34), (false), (wrap64 (x24_2 + 1)), (by first | rfl | (simp; done) | (simp only [← hji34] <;> (first | rfl | simp)) | (simp [*]; done)), (by first | rfl | (simp; done) | (simp [*]; done)), (by first | rfl | (simp; done) | (simp [*]; done)), H', ⟨by have := HJ1.out; have := HK2.out; omega⟩, ⟨by (with_reducible repeat (first | refine blk_drewN ?_ _ | refine blk_drew ?_ | refine blk_alloc ?_ _)); exact BK157.out⟩, ⟨by repeat (first | (with_reducible first | exact HB.out | apply below_alloc | apply pw_below_drewN | apply below_drew1 | refine below_set ?_ GE157.out | refine below_set ?_ GE159.out) | exact HB.out)⟩⟩
                · rw [if_neg c11] at H
                  exact absurd H (by simp)
              · rw [if_neg c10] at H
                exact absurd H (by simp)
            · rw [if_neg c9] at H
              have c9b0 : decide (x24_2 < (l0_5.length : Int)) = false := decide_eq_false c9
              clear c9
              by_cases c40 : x5_2 = true
              · subst c40
                have H1 : (some (x4_2, decide (x4_2 ≤ 4096))) = some (r1, r2) := by rw [if_pos rfl] at H; exact H
                clear H
                have H := H1
                clear H1
                simp only [Option.some.injEq, Prod.mk.injEq] at H
                obtain ⟨rfl, rfl⟩ := H
                go_wp2
                go_ret2
                exact ⟨by first | rfl | (simp [errW_none, errW_some] <;> rfl) | (simp [*, errW_none, errW_some] <;> rfl), by repeat (first | (with_reducible first | exact HB.out | apply below_alloc | apply pw_below_drewN | apply below_drew1 | refine below_set ?_ GE157.out) | exact HB.out)⟩
              · replace c40 := Bool.eq_false_iff.mpr c40
                subst c40
                have H1 : (some (x4_2, false)) = some (r1, r2) := by rw [if_neg (show ¬ (false = true) by decide)] at H; exact H
                clear H
                have H := H1
                clear H1
                simp only [Option.some.injEq, Prod.mk.injEq] at H
                obtain ⟨rfl, rfl⟩ := H
                go_wp2
                go_ret2
                exact ⟨by first | rfl | (simp [errW_none, errW_some] <;> rfl) | (simp [*, errW_none, errW_some] <;> rfl), by repeat (first | (with_reducible first | exact HB.out | apply below_alloc | apply pw_below_drewN | apply below_drew1 | refine below_set ?_ GE157.out) | exact HB.out)⟩

/-! ### sense_atom: function 33 -/
def sense_atom.f (a0_0 : Int) (a0_1 : Int) (a0_2 : ByteArray) (a0_3 : ByteArray) (a0_4 : Int) (l0_5 : List (S24)) : Option (Bool) := if a0_0 ≥ 3 then (some (decide (a0_0 ≤ 7))) else (some false)
set_option maxHeartbeats 8000000 in
set_option maxRecDepth 100000 in
theorem sense_atom.calls (a0_0 : Int) (a0_1 : Int) (a0_2 : ByteArray) (a0_3 : ByteArray) (a0_4 : Int) (A0_5 : Option Addr) (c0_5 : Nat) (l0_5 : List (S24)) (r : Bool) (w : World) (hr0_5 : Kd.C k24 w A0_5 l0_5.length l0_5) (hc0_5 : l0_5.length ≤ c0_5) (h : sense_atom.f a0_0 a0_1 a0_2 a0_3 a0_4 l0_5 = some r) :
    Calls Tryd.prog 33 #[.agg #[.int .i64 a0_0, .int .i64 a0_1, .string a0_2, .string a0_3, .int .i64 a0_4, .slice A0_5 l0_5.length c0_5]] w fun e w' => e = .returned (.bool r) ∧ Below w.heap.size w w' := by
  have hu24 := Tryd.underlying24
  have HR0_5 := Aside0.mk hr0_5
  have HC0_5 := Aside0.mk hc0_5
  clear hr0_5 hc0_5
  have HB := Aside0.mk (Below.refl w.heap.size w)
  have H : (if a0_0 ≥ 3 then (some (decide (a0_0 ≤ 7))) else (some false)) = some r := h
  clear h
  by_cases c2 : a0_0 ≥ 3
  · rw [if_pos c2] at H
    have c2b0 : decide (3 ≤ a0_0) = true := decide_eq_true c2
    clear c2
    obtain rfl := Option.some.inj H
    go_enter Tryd.func33, Tryd.ntmps33
    go_wp2_with (first | ((with_reducible refine gate_dst (N := 1) rfl ?_); refine box_event ?hg (N := 1) ?hd (cs := #[.int .i64 a0_0, .int .i64 a0_1, .string a0_2, .string a0_3, .int .i64 a0_4, .slice A0_5 l0_5.length c0_5]) (t := 24) ?hr ?_; (case hd => rfl); (case hg => rfl); (case hr => first | (go_simp; done) | (go_simp; rfl)); intro gb162 hg w3 hbox hb; have n0_ := Aside0.mk (below_step (by repeat (first | (with_reducible first | exact HB.out | apply below_alloc | apply pw_below_drewN | apply below_drew1) | exact HB.out)) hb); have n1_ := Aside0.mk (hbox); have n2_ := Aside0.mk ((by rw [hg]; exact (below_size (by repeat (first | (with_reducible first | exact HB.out | apply below_alloc | apply pw_below_drewN | apply below_drew1) | exact HB.out))) : w.heap.size ≤ gb162)); have n3_ := Aside0.mk ((by rw [hg]; exact (below_size (by repeat (first | (with_reducible first | exact HB.out | apply below_alloc | apply pw_below_drewN | apply below_drew1) | exact HB.out))) : w.heap.size ≤ gb162)); clear HB; have HB := n0_; have BK162 := n1_; have GW162 := n2_; have GE162 := n3_; clear n0_ n1_ n2_ n3_; clear hb hbox hg; have hcz4_0 : w3.cell? ⟨gb162, 0, none⟩ = some (.int .i64 a0_0) := (blk_cell BK162.out 0).trans rfl; have hcz4_1 : w3.cell? ⟨gb162, 1, none⟩ = some (.int .i64 a0_1) := (blk_cell BK162.out 1).trans rfl; have hcz4_2 : w3.cell? ⟨gb162, 2, none⟩ = some (.string a0_2) := (blk_cell BK162.out 2).trans rfl; have hcz4_3 : w3.cell? ⟨gb162, 3, none⟩ = some (.string a0_3) := (blk_cell BK162.out 3).trans rfl; have hcz4_4 : w3.cell? ⟨gb162, 4, none⟩ = some (.int .i64 a0_4) := (blk_cell BK162.out 4).trans rfl; have hcz4_5 : w3.cell? ⟨gb162, 5, none⟩ = some (.slice A0_5 l0_5.length c0_5) := (blk_cell BK162.out 5).trans rfl; have hfz4_0 := blk_frozen BK162.out 0; have hfz4_1 := blk_frozen BK162.out 1; have hfz4_2 := blk_frozen BK162.out 2; have hfz4_3 := blk_frozen BK162.out 3; have hfz4_4 := blk_frozen BK162.out 4; have hfz4_5 := blk_frozen BK162.out 5))
    go_ret
    exact ⟨by first | rfl | (simp [errW_none, errW_some] <;> rfl) | (simp [*, errW_none, errW_some] <;> rfl), by repeat (first | (with_reducible first | exact HB.out | apply below_alloc | apply pw_below_drewN | apply below_drew1 | refine below_set ?_ GE162.out) | exact HB.out)⟩
  · rw [if_neg c2] at H
    have c2b0 : decide (3 ≤ a0_0) = false := decide_eq_false c2
    clear c2
    obtain rfl := Option.some.inj H
    go_enter Tryd.func33, Tryd.ntmps33
    go_wp2_with (first | ((with_reducible refine gate_dst (N := 1) rfl ?_); refine box_event ?hg (N := 1) ?hd (cs := #[.int .i64 a0_0, .int .i64 a0_1, .string a0_2, .string a0_3, .int .i64 a0_4, .slice A0_5 l0_5.length c0_5]) (t := 24) ?hr ?_; (case hd => rfl); (case hg => rfl); (case hr => first | (go_simp; done) | (go_simp; rfl)); intro gb162 hg w5 hbox hb; have n0_ := Aside0.mk (below_step (by repeat (first | (with_reducible first | exact HB.out | apply below_alloc | apply pw_below_drewN | apply below_drew1) | exact HB.out)) hb); have n1_ := Aside0.mk (hbox); have n2_ := Aside0.mk ((by rw [hg]; exact (below_size (by repeat (first | (with_reducible first | exact HB.out | apply below_alloc | apply pw_below_drewN | apply below_drew1) | exact HB.out))) : w.heap.size ≤ gb162)); have n3_ := Aside0.mk ((by rw [hg]; exact (below_size (by repeat (first | (with_reducible first | exact HB.out | apply below_alloc | apply pw_below_drewN | apply below_drew1) | exact HB.out))) : w.heap.size ≤ gb162)); clear HB; have HB := n0_; have BK162 := n1_; have GW162 := n2_; have GE162 := n3_; clear n0_ n1_ n2_ n3_; clear hb hbox hg; have hcz6_0 : w5.cell? ⟨gb162, 0, none⟩ = some (.int .i64 a0_0) := (blk_cell BK162.out 0).trans rfl; have hcz6_1 : w5.cell? ⟨gb162, 1, none⟩ = some (.int .i64 a0_1) := (blk_cell BK162.out 1).trans rfl; have hcz6_2 : w5.cell? ⟨gb162, 2, none⟩ = some (.string a0_2) := (blk_cell BK162.out 2).trans rfl; have hcz6_3 : w5.cell? ⟨gb162, 3, none⟩ = some (.string a0_3) := (blk_cell BK162.out 3).trans rfl; have hcz6_4 : w5.cell? ⟨gb162, 4, none⟩ = some (.int .i64 a0_4) := (blk_cell BK162.out 4).trans rfl; have hcz6_5 : w5.cell? ⟨gb162, 5, none⟩ = some (.slice A0_5 l0_5.length c0_5) := (blk_cell BK162.out 5).trans rfl; have hfz6_0 := blk_frozen BK162.out 0; have hfz6_1 := blk_frozen BK162.out 1; have hfz6_2 := blk_frozen BK162.out 2; have hfz6_3 := blk_frozen BK162.out 3; have hfz6_4 := blk_frozen BK162.out 4; have hfz6_5 := blk_frozen BK162.out 5))
    go_ret
    exact ⟨by first | rfl | (simp [errW_none, errW_some] <;> rfl) | (simp [*, errW_none, errW_some] <;> rfl), by repeat (first | (with_reducible first | exact HB.out | apply below_alloc | apply pw_below_drewN | apply below_drew1 | refine below_set ?_ GE162.out) | exact HB.out)⟩

end Go.Proofs.YtlgcceojnbobeaaDoor.A

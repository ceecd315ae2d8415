/- slices.Grow at nil, slices.Concat: rows of atoms, one behind the other. -/
import Derived.Test.YtlgcceojnbobeaaDoorContains
import Derived.Lib.AppendZerosOnto
import Derived.Laws.Append
import Derived.Lib.Walk
import Derived.Lib.SliceRun
namespace Go.Proofs.YtlgcceojnbobeaaDoor.A
open Go.RowKit Go.Shelf Go.Proofs.YtlgcceojnbobeaaDoorW.PrintWords Go.Proofs.YtlgcceojnbobeaaDoorW.PrintLast Go.Proofs.YtlgcceojnbobeaaDoorW.PrintMore
set_option linter.unusedVariables false
set_option linter.unusedSimpArgs false

theorem R_empty (w : World) (G : Nat) (cur : Array Value) (hG : G ≤ maxLen) (hc : cur.size = G * 6) : kAt.R 24 (w.alloc (.cells cur 24)) w.heap.size (fun _ => True) (.slice (some ⟨w.heap.size, 0, none⟩) 0 G) [] :=
  ⟨fun _ _ => trivial, [], ⟨rfl, .inr ⟨w.heap.size, G, cur, rfl, Nat.le_refl _, heap_alloc_new w _, Nat.zero_le _, hG, hc, by simp⟩⟩, Reps.none _ _⟩
set_option maxHeartbeats 4000000 in
set_option maxRecDepth 100000 in
theorem grow_calls (n : Nat) (hn : n ≤ 1000000000) (w : World) :
    Calls Tryd.prog 45 #[.slice none 0 0, .int .i64 n] w fun e w' => ∃ v, e = .returned v ∧ kAt.R 24 w' w.heap.size (fun _ => True) v [] ∧ Below w.heap.size w w' := by
  have hn0 : decide ((n : Int) < 0) = false := by rw [decide_eq_false_iff_not]; omega
  by_cases h : n = 0
  · subst h
    go_enter Tryd.func45, Tryd.ntmps45
    go_wp2_with fail
    go_ret
    exact ⟨_, rfl, Kd.R_nil _ _ _ _ _, Below.refl _ _⟩
  · have h0 : 0 < n := by omega
    have h1 : decide (0 < (n : Int)) = true := by rw [decide_eq_true_eq]; omega
    obtain ⟨i0, hi, hz0, hz1, hz2⟩ := info_parts info24
    have hold : (Builtin.firstCells i0.size 0 (.slice none 0 0)).run Tryd.prog w.drew = .ok #[] w.drew := Go.run_firstCells_none w.drew i0.size 0 0 0
    have hrz : ∀ ty, (Builtin.append_ #[22, 3] ty #[.slice none 0 0, .int .i64 (n : Int)]).run Tryd.prog w = .ok (.slice (some ⟨w.heap.size, 0, none⟩) n (grownCap w n 0 24)) (w.drew.alloc (.cells (#[] ++ Builtin.zeroCells (Value.agg #[.int .i64 0, .int .i64 0, .string ⟨#[]⟩, .string ⟨#[]⟩, .int .i64 0, .slice none 0 0]).cells n ++ Builtin.zeroCells (Value.agg #[.int .i64 0, .int .i64 0, .string ⟨#[]⟩, .string ⟨#[]⟩, .int .i64 0, .slice none 0 0]).cells (grownCap w n 0 24 - n)) 24)) := fun ty => by
      have hh := Lib.run_append_grow_zeros w 22 3 ty 24 i0 _ .i64 .i64 Tryd.underlying22 Tryd.underlying3 hi hz0 none 0 0 [] hold n h0 (by rw [hz1]; decide) (by omega) (by omega) (by rw [hz2]; omega) (growslice_fits (by omega) (by rw [hz2]; omega))
      simpa using hh
    have hGn : n ≤ grownCap w n 0 24 := grownCap_ge w _ _ _
    have hGm : grownCap w n 0 24 ≤ maxLen := grownCap_le_maxLen w n 0 24 (by unfold maxLen; omega)
    obtain ⟨G, hG⟩ : ∃ G, G = grownCap w n 0 24 := ⟨_, rfl⟩
    rw [← hG] at hrz hGn hGm
    have hG63 : G ≤ 9223372036854775807 := by unfold maxLen at hGm; omega
    obtain ⟨cur, hcur⟩ : ∃ cur, cur = (#[] ++ Builtin.zeroCells (Value.agg #[.int .i64 0, .int .i64 0, .string ⟨#[]⟩, .string ⟨#[]⟩, .int .i64 0, .slice none 0 0]).cells n ++ Builtin.zeroCells (Value.agg #[.int .i64 0, .int .i64 0, .string ⟨#[]⟩, .string ⟨#[]⟩, .int .i64 0, .slice none 0 0]).cells (G - n)) := ⟨_, rfl⟩
    have hcs : cur.size = G * 6 := by
      rw [hcur]
      simp only [Array.size_append, size_zeroCells]
      have e6 : (Value.agg #[.int .i64 0, .int .i64 0, .string ⟨#[]⟩, .string ⟨#[]⟩, .int .i64 0, .slice none 0 0]).cells.size = 6 := rfl
      rw [e6]
      simp
      omega
    rw [← hcur] at hrz
    have HR := Aside0.mk (R_empty w.drew G cur hGm hcs)
    clear hold hG hcur hcs hi hz0 hz1 hz2 h
    go_enter Tryd.func45, Tryd.ntmps45
    go_wp2_with (at_builtin; refine Lib.wpList_append_run _ rfl _ _ _ _ rfl _ _ rfl rfl _ _ (hrz _) ?_)
    all_goals (go_ret; exact ⟨_, rfl, HR.out, (Below.refl _ _).drew.alloc (Nat.le_refl _) _⟩)

def lens (xs : List (List At)) : Nat := (xs.map List.length).sum
theorem lens_take (xs : List (List At)) (k : Nat) (h : k < xs.length) : lens (xs.take (k + 1)) = lens (xs.take k) + xs[k].length := by
  unfold lens; rw [List.take_succ_eq_append_getElem h, List.map_append, List.sum_append]; simp
theorem lens_le (xs : List (List At)) (k : Nat) : lens (xs.take k) ≤ lens xs := by
  unfold lens
  conv => rhs; rw [← List.take_append_drop k xs]
  rw [List.map_append, List.sum_append]; omega
theorem flat_take (xs : List (List At)) (k : Nat) (h : k < xs.length) : (xs.take (k + 1)).flatten = (xs.take k).flatten ++ xs[k] := by
  rw [List.take_succ_eq_append_getElem h, List.flatten_append]; simp
theorem len_flat (xs : List (List At)) : xs.flatten.length = lens xs := by unfold lens; rw [List.length_flatten]
theorem wrap_len (a b c : Nat) (h : c = a + b) (hb : c ≤ 1000000000) : IntKind.i64.wrap ((a : Int) + (b : Int)) = (c : Int) := by
  subst h; rw [wrap_small _ (by omega) (by omega)]; omega
set_option maxHeartbeats 4000000 in
set_option maxRecDepth 100000 in
theorem concat_calls (A : Option Addr) (c : Nat) (xs : List (List At)) (w : World) (hC : Kd.C kRow w A xs.length xs) (hlen : lens xs ≤ 1000000000) :
    Calls Tryd.prog 34 #[.slice A xs.length c] w fun e w' => ∃ v, e = .returned v ∧ kAt.R 24 w' w.heap.size (fun _ => True) v xs.flatten ∧ Below w.heap.size w w' := by
  have hmax : xs.length ≤ 9223372036854775807 := hC.2.1
  have HC := Aside0.mk hC
  have HL := Aside0.mk hlen
  clear hC hlen
  go_enter Tryd.func34, Tryd.ntmps34
  go_wp2_with fail
  go_loopw [3, 11] (fun s i wr => ∃ k m : Nat, k ≤ xs.length ∧ i = .int .i64 k ∧ s = .int .i64 m ∧ Aside0 (m = lens (xs.take k)) ∧ Aside0 (Below w.heap.size w wr))
    (fun _ i _ => xs.length - (RowKit.intOf i).toNat)
  case atStart => exact ⟨0, 0, Nat.zero_le _, rfl, rfl, ⟨rfl⟩, ⟨Below.refl _ _⟩⟩
  case round =>
    obtain ⟨k, m, hk, rfl, rfl, HM, HB⟩ := hrel
    by_cases hlt : k < xs.length
    · obtain ⟨ad, A1, c1, rfl, h0, h1, h2⟩ := at_Row HC.out (k : Int) (by omega) (by omega)
      simp only [Int.toNat_natCast] at h0
      replace h0 := cellB' HB.out h0
      have hx : Aside0 (rd_Row xs k = xs[k]) := ⟨by simp [rd_Row, hlt]⟩
      have HM1 := Aside0.mk (lens_take xs k hlt)
      have HM2 := Aside0.mk (Nat.le_trans (lens_le xs (k + 1)) HL.out)
      rw [← hx.out, ← HM.out] at HM1
      clear hx h1 h2
      obtain ⟨x, hxx⟩ : ∃ x, x = (rd_Row xs k).length := ⟨_, rfl⟩
      rw [← hxx] at h0 HM1
      clear hxx
      obtain ⟨m1, hm1⟩ : ∃ m1, m1 = lens (xs.take (k + 1)) := ⟨_, rfl⟩
      have HM3 := Aside0.mk hm1
      have hw := wrap_len m x m1 (hm1.trans HM1.out) (hm1 ▸ HM2.out)
      have hneg : decide ((m1 : Int) < 0) = false := by rw [decide_eq_false_iff_not]; omega
      clear hm1 HM1 HM2 HM
      go_wp2_with fail
      go_roundw
      case rel => exact ⟨k + 1, m1, by omega, by go_num, rfl, HM3, HB⟩
      case measure => simp [RowKit.intOf]; omega
    · obtain rfl : k = xs.length := by omega
      have hm0 : m ≤ 1000000000 := by rw [HM.out]; exact Nat.le_trans (lens_le xs _) HL.out
      have HG := Aside0.mk (grow_calls m hm0 wr)
      clear hm0 HM hlt
      go_wp2_with fail
      refine HG.out.mono ?_
      rintro e w1 ⟨v, rfl, HR, hB1⟩
      have HR0 : Aside0 (kAt.R 24 w1 w.heap.size (fun _ => True) v []) := ⟨Kd.R_lower HR HB.out.size⟩
      have HB0 := Aside0.mk (HB.out.trans (hB1.mono HB.out.size))
      clear HG HR hB1 HB
      go_wp2_with fail
      go_loopw [6, 27] (fun v i wr => ∃ k : Nat, k ≤ xs.length ∧ i = .int .i64 k ∧ Aside0 (kAt.R 24 wr w.heap.size (fun _ => True) v (xs.take k).flatten) ∧ Aside0 (Below w.heap.size w wr))
        (fun _ i _ => xs.length - (RowKit.intOf i).toNat)
      case atStart => exact ⟨0, Nat.zero_le _, rfl, HR0, HB0⟩
      case round =>
        obtain ⟨k, hk, rfl, HR, HB⟩ := hrel
        by_cases hlt : k < xs.length
        · obtain ⟨ad, A1, c1, rfl, h0, h1, h2⟩ := at_Row HC.out (k : Int) (by omega) (by omega)
          simp only [Int.toNat_natCast] at h0
          replace h0 := cellB' HB.out h0
          replace h1 := Aside0.mk h1
          replace h2 := Aside0.mk (Kd.C_below h2 HB.out)
          have hx : Aside0 (rd_Row xs k = xs[k]) := ⟨by simp [rd_Row, hlt]⟩
          have HF := Aside0.mk (flat_take xs k hlt)
          have HS : Aside0 (((xs.take k).flatten.length + (xs[k]).length) * 80 ≤ 140737488355328) := ⟨by
            have e1 := lens_take xs k hlt
            have e2 := Nat.le_trans (lens_le xs (k + 1)) HL.out
            rw [len_flat]; omega⟩
          rw [← hx.out] at HF HS
          obtain ⟨x, hxx⟩ : ∃ x, x = rd_Row xs k := ⟨_, rfl⟩
          rw [← hxx] at h0 h1 h2 HF HS
          clear hx hxx
          go_wp2_with (at_builtin; refine Kd.R_append_rows kAt (Rr := kAt.K wr) (w0 := w) w.heap.size rfl _ _ 22 24 _ 80 rfl Tryd.underlying22 info24 rfl (by decide) (by decide) _ (xs.take k).flatten x A1 x.length c1 (fun _ => True) (fun _ => False) rfl rfl HR.out h2.out (fun _ _ h => h) (fun _ h => h.elim) (fun _ _ => trivial) HB.out HB.out.size HS.out ?hnext)
          intro v1 w2 ho hb hg hat
          have HB1 := Aside0.mk hb
          have HO1 : Aside0 (kAt.R 24 w2 w.heap.size (fun _ => True) v1 (xs.take (k + 1)).flatten) := ⟨HF.out ▸ ho⟩
          clear ho hb hg hat HF HS HR HB h0 h1 h2
          go_wp2_with fail
          go_roundw
          case rel => exact ⟨k + 1, by omega, by go_num, HO1, HB1⟩
          case measure => simp [RowKit.intOf]; omega
        · obtain rfl : k = xs.length := by omega
          go_wp2_with fail
          go_ret
          exact ⟨_, rfl, by have h := HR.out; rwa [List.take_length] at h, HB.out⟩

end Go.Proofs.YtlgcceojnbobeaaDoor.A

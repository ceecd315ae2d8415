/- slices.Chunk by twos: its contract, for whatever loop body keeps what it reads. -/
import Derived.RangeFuncNested
import Derived.RangeFuncBound
import Derived.RangeFuncCalls
import Derived.RangeFuncLeaves
import Derived.RangeFuncBox
import Derived.Shelf.Abstract
import Derived.Shelf.RegionOpen
import Derived.WalkKit
import Derived.OwnWalkIn
import Derived.TacticsInMore
import Derived.LoopNIn
import Derived.LoopIn
import Derived.Maps.AppendAt
import Derived.Outline
import Derived.BigRegionIn
import Derived.RegionIn
import Derived.Test.YtglgajammfcmcaaDoorField
namespace Go.Proofs.YtglgajammfcmcaaDoor.A
open Go.RowKit Go.Shelf
attribute [local go_sem] Oper.semAt_some
set_option linter.unusedVariables false
set_option linter.unusedSimpArgs false

/-- What a round must keep: what lay below n₀, and the iterator's two boxes. -/
def KpC (n₀ bs bn : Nat) (W W' : World) : Prop := Below n₀ W W' ∧ W'.heap[bs]? = W.heap[bs]? ∧ W'.heap[bn]? = W.heap[bn]?
theorem kpC_t {n₀ bs bn : Nat} {A B C : World} (h : KpC n₀ bs bn A B) (k : KpC n₀ bs bn B C) : KpC n₀ bs bn A C := ⟨h.1.trans k.1, k.2.1.trans h.2.1, k.2.2.trans h.2.2⟩
theorem kpC_b {n₀ bs bn : Nat} {w : World} (hn : n₀ ≤ w.heap.size) (h1 : bs < w.heap.size) (h2 : bn < w.heap.size) (W : World) (l : Nat) (o o' : Obj) (hl : w.heap.size ≤ l) (h : W.heap[l]? = some o) (hc : o.isCells = false) (hw : o.isWalk = false) : KpC n₀ bs bn W (W.putObj l o') := by
  have hg := grownBy_putObj' W l o'
  have hlt := (Array.getElem?_eq_some_iff.1 h).1
  exact ⟨belowK_b hn W l o o' hl h hc hw, hg.block bs (by omega) (fun e => by injection e with e; omega), hg.block bn (by omega) (fun e => by injection e with e; omega)⟩
theorem grownBy_drew0 (W : World) (row : Option Nat) : W.grownBy W.drew row := ⟨rfl, rfl, rfl, Nat.le_refl _, fun _ _ _ => rfl⟩
theorem finRange_take_succ {m : Nat} (k : Nat) (h : k < m) : (List.finRange m).take (k + 1) = (List.finRange m).take k ++ [⟨k, h⟩] := by
  rw [List.take_succ_eq_append_getElem (by simpa using h)]
  simp

set_option maxRecDepth 100000 in
set_option maxHeartbeats 4000000 in
theorem chunk1_in (F : Fence) (n : Nat) (h46 : F.fn 46) (hro : F.round = none) (hn : 1 ≤ n) (l bs bn n₀ b m cap : Nat) (hm : m ≤ 1000) (hcap : 2 * m ≤ cap) (hcap2 : cap ≤ 9223372036854775807) (J Jx : List (Fin m) → World → Prop)
    (hY : ∀ pre (x : Fin m) W, J pre W → pre.length < m → YieldAt F (n - 1) Tryd.prog l #[.slice (some ⟨b, 2 * x.1, none⟩) 2 2] W fun e W' =>
      (e = .returned (.bool true) ∧ J (pre ++ [x]) W' ∧ KpC n₀ bs bn W W') ∨ (e = .returned (.bool false) ∧ Jx (pre ++ [x]) W'))
    (W : World) (hAb : AbidesFrom W.heap.size J) (hBs : Boxed W bs 54 (.slice (some ⟨b, 0, none⟩) (2 * m) cap)) (hBn : Boxed W bn 3 (.int .i64 2)) (h0 : J [] W) :
    CallsIn F n Tryd.prog 46 #[.func (.yield l) #[] #[], .pointer (some ⟨bs, 0, none⟩), .pointer (some ⟨bn, 0, none⟩)] W fun e W' => (∃ v, e = .returned v) ∧
      ((∃ ys, ys = List.finRange m ∧ J ys W') ∨ (∃ pre, True ∧ Jx pre W')) := by
  refine callsIn_of_wp Tryd.func46 rfl h46 ?_ hro
  simp only [Tryd.ntmps46, List.size_toArray, List.length_cons, List.length_nil, Nat.reduceAdd, Nat.reduceSub, Array.replicate_succ, Array.replicate_zero, List.push_toArray, List.append_toArray, List.nil_append, List.cons_append]
  gi_wp2
  gi_loopw [4] (fun i wr => ∃ k j : Nat, k ≤ m ∧ 2 * k ≤ j ∧ j ≤ 2 * k ∧ i = .int .i64 (j : Int) ∧ J ((List.finRange m).take k) wr ∧ Boxed wr bs 54 (.slice (some ⟨b, 0, none⟩) (2 * m) cap) ∧ Boxed wr bn 3 (.int .i64 2))
    (fun i _ => 2 * m - (intOf i).toNat)
  case atStart => exact ⟨0, 0, Nat.zero_le _, Nat.zero_le _, Nat.zero_le _, rfl, h0, hBs, hBn⟩
  case round =>
    obtain ⟨k, j, hk, hj1, hj2, rfl, hJ, hS, hN⟩ := hrel
    have c1 := hS.cell
    have c2 := hN.cell
    by_cases hlt : k < m
    · have hlt2 : j < 2 * m := by omega
      have hmin : ¬ ((2 * m - j : Nat) : Int) < 2 := by omega
      gi_wp2
      gi_region
      all_goals
        have hJd : J ((List.finRange m).take k) wr.drew := hAb _ _ _ none hJ (grownBy_drew0 wr none) (fun r e => by cases e)
        obtain ⟨fn, tmps, assign, body, hy, hR⟩ := hY _ ⟨k, hlt⟩ wr.drew hJd (by simp; omega)
        dsimp only at hy
        rw [show 2 * k = j by omega] at hy
        have c1 := hS.cell
        have c2 := hN.cell
        gi_wp2
        refine hR.mono ?_
        rintro e W3 (⟨rfl, hJ3, hk3⟩ | ⟨rfl, hJx3⟩)
        · have hS3 : Boxed W3 bs 54 (.slice (some ⟨b, 0, none⟩) (2 * m) cap) := hk3.2.1.trans hS
          have hN3 : Boxed W3 bn 3 (.int .i64 2) := hk3.2.2.trans hN
          have c3 := hS3.cell
          have c4 := hN3.cell
          clear hy hR c1 c2
          gi_wp2
          go_roundw
          case rel => exact ⟨k + 1, j + 2, by omega, by omega, by omega, by simp, by rw [finRange_take_succ k hlt]; exact hJ3, hS3, hN3⟩
          case measure => simp [intOf]; omega
        · gi_wp2
          refine bodyPost_ret (results_none rfl _ _ _) rfl ?_
          exact ⟨⟨_, rfl⟩, .inr ⟨_, trivial, hJx3⟩⟩
    · have hlt2 : ¬ j < 2 * m := by omega
      gi_wp2
      go_end0
      obtain rfl : k = m := by omega
      rw [List.take_of_length_le (by simp)] at hJ
      exact ⟨⟨_, rfl⟩, .inl ⟨_, rfl, hJ⟩⟩
theorem chunk_stops (F : Fence) (n : Nat) (h46 : F.fn 46) (hro : F.round = none) (hn : 1 ≤ n) (bs bn n₀ b m cap : Nat) (hm : m ≤ 1000) (hcap : 2 * m ≤ cap) (hcap2 : cap ≤ 9223372036854775807) (w : World)
    (hBs : Boxed w bs 54 (.slice (some ⟨b, 0, none⟩) (2 * m) cap)) (hBn : Boxed w bn 3 (.int .i64 2)) :
    SeqStopsK F n Tryd.prog 46 #[.pointer (some ⟨bs, 0, none⟩), .pointer (some ⟨bn, 0, none⟩)] (fun x : Fin m => #[.slice (some ⟨b, 2 * x.1, none⟩) 2 2]) (KpC n₀ bs bn) (fun ys => ys = List.finRange m) (fun _ => True) m w := fun l J Jx W hW hJ _ hY h0 =>
  chunk1_in F n h46 hro hn l bs bn n₀ b m cap hm hcap hcap2 J Jx hY W hJ ((hW.block bs hBs.lt).trans hBs) ((hW.block bn hBn.lt).trans hBn) h0
set_option maxHeartbeats 1000000 in
/-- slices.Chunk(s, 2): both are boxed; the function value captures the boxes. -/
theorem chunk_in (F : Fence) (n : Nat) (h39 : F.fn 39) (hro : F.round = none) (a : Option Addr) (len cap : Nat) (w : World) :
    CallsIn F n Tryd.prog 39 #[.slice a len cap, .int .i64 2] w fun e w' => e = .returned (.func (.func 46) #[] #[.pointer (some ⟨w.heap.size, 0, none⟩), .pointer (some ⟨w.heap.size + 1, 0, none⟩)]) ∧ w' = (w.alloc (.cells #[.slice a len cap] 54)).alloc (.cells #[.int .i64 2] 3) := by
  refine callsIn_of_wp Tryd.func39 rfl h39 ?_ hro
  simp only [Tryd.ntmps39, List.size_toArray, List.length_cons, List.length_nil, Nat.reduceAdd, Nat.reduceSub, Array.replicate_succ, Array.replicate_zero, List.push_toArray, List.append_toArray, List.nil_append, List.cons_append]
  gi_wp2
  go_ret
  exact ⟨rfl, rfl⟩
end Go.Proofs.YtglgajammfcmcaaDoor.A

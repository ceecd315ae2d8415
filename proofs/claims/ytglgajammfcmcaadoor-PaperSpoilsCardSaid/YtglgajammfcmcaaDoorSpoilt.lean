/- paper.Spoilt without its second paper, walked at two papers. -/
import Derived.Test.YtglgajammfcmcaaDoorField
import Derived.Test.YtglgajammfcmcaaDoorWApart
import Derived.Test.YtglgajammfcmcaaDoorWLast
import Derived.Test.YtglgajammfcmcaaDoorWMore
import Derived.Outline
import Derived.Laws.IdiomCopy
import Derived.Laws.AppendOwn
namespace Go.Proofs.YtglgajammfcmcaaDoor.A
open Go.RowKit Go.Shelf Go.Proofs.YtglgajammfcmcaaDoorW.PrintWords Go.Proofs.YtglgajammfcmcaaDoorW.PrintLast Go.Proofs.YtglgajammfcmcaaDoorW.PrintMore
set_option linter.unusedVariables false
set_option linter.unusedSimpArgs false

theorem info24 : (Tryd.prog.info? 24).map (fun i => (i.zero, i.size, i.bytes)) = some (some (.agg #[.int .i64 0, .string ⟨#[]⟩, .string ⟨#[]⟩, .slice none 0 0]), 4, 64) := by kernel_rfl
/-- A paper's cells. -/
def docL (k : Int) (a b : ByteArray) (A : Option Addr) (n c : Nat) : List Value := [.int .i64 k, .string a, .string b, .slice A n c]
theorem docL_raw (w : World) (k : Int) (a b : ByteArray) (A : Option Addr) (n c : Nat) : (Kd.raw 4).K w (docL k a b A n c) (docL k a b A n c) := ⟨rfl, rfl, by intro u hu; simp [docL] at hu; rcases hu with rfl | rfl | rfl | rfl <;> rfl⟩
theorem run_append_zero {P : Program} (w : World) (t ty e : TypeId) (i : TypeInfo) (ht : P.underlying t = some (.slice e)) (hi : P.info? e = some i) (a b : Addr) (n cap c : Nat) (hn : n ≤ cap) :
    (Builtin.append_ #[t, t] ty #[.slice (some a) n cap, .slice (some b) 0 c]).run P w = .ok (.slice (some a) n cap) w := by
  have hf := run_firstCells_some (P := P) w i.size 0 b 0 c [] (by simp) (by simp)
  simp [Builtin.append_, run_underlying ht, sizeOf, typeInfo, hi, Builtin.lenOf, hn, hf, storeCells]
theorem run_clear_one {P : Program} (w : World) (t e ty : TypeId) (z : Value) (ht : P.underlying t = some (.slice e)) (hv : ∀ w, (zeroValue e).run P w = .ok z w) (h1 : ∀ u ∈ z.cells.toList, u.oneCell' = true) (b o c : Nat)
    (hc : ∀ j, j < z.cells.toList.length → (w.cell? ⟨b, o + j, none⟩).isSome = true) (hf : ∀ j, j < z.cells.toList.length → w.frozen? ⟨b, o + j, none⟩ = false) :
    (Builtin.clear_ #[t] ty #[.slice (some ⟨b, o, none⟩) 1 c]).run P w = .ok (.tuple #[]) (w.setCells b o z.cells.toList) := by
  have hzc : (Builtin.zeroCells z.cells 1).toList = z.cells.toList := by
    simp only [Builtin.zeroCells]
    apply List.ext_getElem
    · simp
    · intro i h1 h2
      have : i < z.cells.size := by simpa using h2
      simp [Nat.mod_eq_of_lt this, this]
  have hst := run_storeCells_cells (P := P) b o z.cells.toList 0 w (by simpa using hc) (by simpa using hf) h1
  simp only [Nat.add_zero] at hst
  simp [Builtin.clear_, run_underlying ht, hv, hzc, hst]
theorem blk_belowS {w w' : World} {g : Nat} {o : Obj} (h : w.heap[g]? = some o) (hb : Below w.heap.size w w') : w'.heap[g]? = some o := (hb.block g (Array.getElem?_eq_some_iff.1 h).1).trans h
section
variable (a0 b0 a1 b1 : ByteArray) (A0 A1 : Option Addr) (n0 c0 n1 c1 : Nat)
set_option maxHeartbeats 1000000 in
set_option maxRecDepth 100000 in
/-- slices.Clone of two papers. -/
theorem clone2_calls (ad : Addr) (c : Nat) (w : World) (hr : Kd.C (Kd.raw 4) w (some ad) 2 [docL 0 a0 b0 A0 n0 c0, docL 1 a1 b1 A1 n1 c1]) :
    Calls Tryd.prog 18 #[.slice (some ad) 2 c] w fun e w' => ∃ v, e = .returned v ∧ Kd.R (Kd.raw 4) 24 w' w.heap.size (fun k => w.heap.size ≤ k) v [docL 0 a0 b0 A0 n0 c0, docL 1 a1 b1 A1 n1 c1] ∧ Below w.heap.size w w' := by
  have HR := Aside0.mk hr
  clear hr
  have hnil := fun (w : World) => Lib.run_eql_slice_nil (P := Tryd.prog) w 38 24 (some ad) 2 c 0 0 Tryd.underlying38
  generalize hl : [docL 0 a0 b0 A0 n0 c0, docL 1 a1 b1 A1 n1 c1] = l at HR ⊢
  have hlen : l.length = 2 := by rw [← hl]; rfl
  replace hlen := Aside0.mk hlen
  clear hl
  go_enter Tryd.func18, Tryd.ntmps18
  go_wp2_with (at_builtin; refine Kd.R_append_rows (Kd.raw 4) (Rr := (Kd.raw 4).K w) (w0 := w) w.heap.size rfl _ _ 38 24 _ 64 rfl Tryd.underlying38 info24 rfl (by decide) (by decide) _ ([] : List (List Value)) l (some ad) 2 c (fun k => w.heap.size ≤ k) (fun _ => False) rfl rfl ?ho ?hr (fun x cs h => h) (fun _ h => h.elim) ?hf ?hb ?hs ?hl ?_)
  case ho => exact R_lit0 (Kd.raw 4) w 24
  case hr => have := Kd.C_below HR.out ((Below.refl _ _).alloc (Nat.le_refl _) (.cells #[] 24)); exact this
  case hf => intro k hk; simp at hk; omega
  case hb => exact (Below.refl _ _).alloc (Nat.le_refl _) _
  case hs => simp
  case hl => simp
  intro v1 w1 h1 h2 _ _
  obtain ⟨A', c', rfl⟩ := Kd.R_slice h1
  have h1 := Aside0.mk h1
  have h2 := Aside0.mk h2
  go_wp2
  go_ret
  exact ⟨_, rfl, h1.out, h2.out⟩
set_option maxHeartbeats 4000000 in
set_option maxRecDepth 100000 in
theorem kind1_calls (k : Int) (a b : ByteArray) (A : Option Addr) (n c : Nat) (g : Nat) (m : Int) (w : World) (hb : w.heap[g]? = some (.cells #[.int .i64 m] 3 (0, 0))) :
    Calls Tryd.prog 21 #[.agg #[.int .i64 k, .string a, .string b, .slice A n c], .pointer (some ⟨g, 0, none⟩)] w fun e w' => e = .returned (.bool (k == m)) ∧ Below w.heap.size w w' := by
  have c0 := box_cell hb
  have hlt := blk_lt hb
  clear hb
  go_enter Tryd.func21, Tryd.ntmps21
  go_wp2_with fail
  go_ret
  exact ⟨rfl, (Below.refl _ _).alloc (Nat.le_refl _) _⟩
set_option maxHeartbeats 4000000 in
set_option maxRecDepth 100000 in
theorem first_calls (g c gb : Nat) (w : World) (hb : w.heap[gb]? = some (.cells #[.int .i64 1] 3 (0, 0)))
    (h0 : w.cell? ⟨g, 0, none⟩ = some (.int .i64 0) ∧ w.cell? ⟨g, 1, none⟩ = some (.string a0) ∧ w.cell? ⟨g, 2, none⟩ = some (.string b0) ∧ w.cell? ⟨g, 3, none⟩ = some (.slice A0 n0 c0))
    (h1 : w.cell? ⟨g, 4, none⟩ = some (.int .i64 1) ∧ w.cell? ⟨g, 5, none⟩ = some (.string a1) ∧ w.cell? ⟨g, 6, none⟩ = some (.string b1) ∧ w.cell? ⟨g, 7, none⟩ = some (.slice A1 n1 c1)) :
    Calls Tryd.prog 20 #[.slice (some ⟨g, 0, none⟩) 2 c, .func (.func 21) #[] #[.pointer (some ⟨gb, 0, none⟩)]] w fun e w' => e = .returned (.int .i64 1) ∧ Below w.heap.size w w' := by
  have HB0 := Aside0.mk hb
  have H0 := Aside0.mk h0
  have H1 := Aside0.mk h1
  clear hb h0 h1
  go_enter Tryd.func20, Tryd.ntmps20
  go_wp2_with fail
  go_loopw [8] (fun i wr => ∃ k : Nat, k ≤ 1 ∧ i = .int .i64 k ∧ Aside0 (Below w.heap.size w wr))
    (fun i _ => 2 - (RowKit.intOf i).toNat)
  case atStart => exact ⟨0, Nat.zero_le _, rfl, ⟨Below.refl _ _⟩⟩
  case round =>
    obtain ⟨k, hk, rfl, HB⟩ := hrel
    rcases Nat.lt_or_ge k 1 with h | h
    · obtain rfl : k = 0 := by omega
      obtain ⟨q0, q1, q2, q3⟩ := H0.out
      replace q0 := cellB' HB.out q0
      replace q1 := cellB' HB.out q1
      replace q2 := cellB' HB.out q2
      replace q3 := cellB' HB.out q3
      have HQ := Aside0.mk (kind1_calls 0 a0 b0 A0 n0 c0 gb 1 wr ((HB.out.block gb (blk_lt HB0.out)).trans HB0.out))
      clear h hk
      go_wp2_with fail
      refine HQ.out.mono ?_
      rintro e w1 ⟨rfl, hB1⟩
      replace hB1 := Aside0.mk (HB.out.trans (hB1.mono HB.out.size))
      clear HQ q0 q1 q2 q3
      go_wp2_with fail
      go_roundw
      case rel => exact ⟨1, by omega, rfl, hB1⟩
      case measure => simp [RowKit.intOf]
    · obtain rfl : k = 1 := by omega
      obtain ⟨q0, q1, q2, q3⟩ := H1.out
      replace q0 := cellB' HB.out q0
      replace q1 := cellB' HB.out q1
      replace q2 := cellB' HB.out q2
      replace q3 := cellB' HB.out q3
      have HQ := Aside0.mk (kind1_calls 1 a1 b1 A1 n1 c1 gb 1 wr ((HB.out.block gb (blk_lt HB0.out)).trans HB0.out))
      clear h hk
      go_wp2_with fail
      refine HQ.out.mono ?_
      rintro e w1 ⟨rfl, hB1⟩
      replace hB1 := Aside0.mk (HB.out.trans (hB1.mono HB.out.size))
      clear HQ q0 q1 q2 q3
      go_wp2_with fail
      go_ret
      exact ⟨rfl, hB1.out⟩
set_option maxHeartbeats 4000000 in
set_option maxRecDepth 100000 in
theorem place2_calls (g c gs : Nat) (w : World) (hs : w.heap[gs]? = some (.cells #[.slice (some ⟨g, 0, none⟩) 2 c] 38 (0, 0)))
    (h0 : w.cell? ⟨g, 0, none⟩ = some (.int .i64 0) ∧ w.cell? ⟨g, 1, none⟩ = some (.string a0) ∧ w.cell? ⟨g, 2, none⟩ = some (.string b0) ∧ w.cell? ⟨g, 3, none⟩ = some (.slice A0 n0 c0))
    (h1 : w.cell? ⟨g, 4, none⟩ = some (.int .i64 1) ∧ w.cell? ⟨g, 5, none⟩ = some (.string a1) ∧ w.cell? ⟨g, 6, none⟩ = some (.string b1) ∧ w.cell? ⟨g, 7, none⟩ = some (.slice A1 n1 c1)) :
    Calls Tryd.prog 19 #[.int .i64 1, .pointer (some ⟨gs, 0, none⟩)] w fun e w' => e = .returned (.int .i64 1) ∧ Below w.heap.size w w' := by
  have B1 : Aside0 (Below w.heap.size w (w.alloc (.cells #[.int .i64 1] 3))) := ⟨(Below.refl _ _).alloc (Nat.le_refl _) _⟩
  have s0 := box_cell hs
  have hlt := blk_lt hs
  have HI := Aside0.mk (first_calls a0 b0 a1 b1 A0 A1 n0 c0 n1 c1 g c w.heap.size (w.alloc (.cells #[.int .i64 1] 3)) (heap_alloc_new w _) ⟨cellB' B1.out h0.1, cellB' B1.out h0.2.1, cellB' B1.out h0.2.2.1, cellB' B1.out h0.2.2.2⟩ ⟨cellB' B1.out h1.1, cellB' B1.out h1.2.1, cellB' B1.out h1.2.2.1, cellB' B1.out h1.2.2.2⟩)
  clear hs h0 h1
  go_enter Tryd.func19, Tryd.ntmps19
  go_wp2_with fail
  refine HI.out.mono ?_
  rintro e w1 ⟨rfl, hB1⟩
  replace hB1 := Aside0.mk (B1.out.trans (hB1.mono B1.out.size))
  clear HI
  go_wp2_with fail
  go_ret
  exact ⟨rfl, hB1.out⟩
end
-- DELETE
def delW.T5 : Bool × List (List Nat × List Nat) := (true, [([], []), ([], []), ([0, 1], [0, 1]), ([], []), ([], []), ([3, 4], [3, 4]), ([2, 5], [2, 5]), ([6, 6, 0, 1, 2, 3, 4, 5, 6], [0, 3, 6])])
def delW.B5 : List Nat := [0, 0, 3, 0, 0, 24, 63, 127]
theorem delW.tab5 : rtab .any (opsOf Tryd.f23 5) = delW.T5 := by kernel_rfl
theorem delW.bits5 : waitsOk delW.T5.2 delW.B5 = true := by kernel_rfl
set_option maxHeartbeats 4000000 in
set_option maxRecDepth 100000 in
theorem delete_calls3 (g c : Nat) (hc : 3 ≤ c) (hc2 : c ≤ 9223372036854775807) (w : World) (hcell : ∀ j, j < 4 → (w.cell? ⟨g, 4 + j, none⟩).isSome = true) (hf : ∀ j, j < 4 → w.frozen? ⟨g, 4 + j, none⟩ = false) :
    Calls Tryd.prog 23 #[.slice (some ⟨g, 0, none⟩) 2 c, .int .i64 1, .int .i64 2] w fun e w' => e = .returned (.slice (some ⟨g, 0, none⟩) 1 c) ∧ w' = w.drew.setCells g 4 [.int .i64 0, .string ⟨#[]⟩, .string ⟨#[]⟩, .slice none 0 0] := by
  obtain ⟨i0, hi, _⟩ := Option.map_eq_some_iff.1 info24
  have hclr : ∀ ty, (Builtin.clear_ #[38] ty #[.slice (some ⟨g, 4, none⟩) 1 (c - 1)]).run Tryd.prog w.drew = .ok (.tuple #[]) (w.drew.setCells g 4 [.int .i64 0, .string ⟨#[]⟩, .string ⟨#[]⟩, .slice none 0 0]) := fun ty => run_clear_one w.drew 38 24 ty (.agg #[.int .i64 0, .string ⟨#[]⟩, .string ⟨#[]⟩, .slice none 0 0]) Tryd.underlying38 (fun w => by kernel_rfl) (by intro u hu; simp [Value.cells] at hu; rcases hu with rfl | rfl | rfl | rfl <;> rfl) g 4 (c - 1) (fun j hj => hcell j hj) (fun j hj => hf j hj)
  have f1 : (1 : Int) ≤ (c : Int) := by omega
  have f2 : (2 : Int) ≤ (c : Int) := by omega
  have f3 : ¬ c = 2 := by omega
  have f4 : ¬ c = 1 := by omega
  have f5 : ¬ c = 0 := by omega
  have f6 : 1 ≤ c := by omega
  clear hcell hf hi
  go_enter Tryd.func23, Tryd.ntmps23
  go_wp2_with fail
  refine start_ (n := 8) (S := fun _ => True) (ds := []) #[false, false, false, false, false, false, false, false] (by kernel_rfl) rfl rfl trivial (fun hHeld => ?_)
  refine with_tabW delW.tab5 delW.bits5 (fun HT_ HW_ => ?_)
  generalize hw6 : w.drew = w6 at *
  replace hw6 := Aside0.mk hw6
  refine pure_ (i := 0) (N := some 20) (v := ?_) (a' := ?_) #[true, false, false, false, false, false, false, false] rfl rfl (any_of HT_.out (by kernel_rfl)) (fun _ _ _ h => h) (Or.inl ⟨by rfl, ?_⟩) ?_ ?_
  rotate_left
  · intro w'
    go_simp
    with_reducible rfl
  rotate_left
  · simp only [Act.put, List.setIfInBounds_toArray, List.set_cons_zero, List.set_cons_succ, i64_w, i32_w]
    rfl
  refine pure_ (i := 1) (N := some 21) (v := ?_) (a' := ?_) #[true, true, false, false, false, false, false, false] rfl rfl (any_of HT_.out (by kernel_rfl)) (fun _ _ _ h => h) (Or.inl ⟨by rfl, ?_⟩) ?_ ?_
  rotate_left
  · intro w'
    go_simp
    with_reducible rfl
  rotate_left
  · simp only [Act.put, List.setIfInBounds_toArray, List.set_cons_zero, List.set_cons_succ, i64_w, i32_w]
    rfl
  refine pure_ (i := 2) (N := some 22) (v := ?_) (a' := ?_) #[true, true, true, false, false, false, false, false] rfl rfl (any_of HT_.out (by kernel_rfl)) (fun _ _ _ h => h) (Or.inl ⟨by rfl, ?_⟩) ?_ ?_
  rotate_left
  · intro w'
    go_simp
    with_reducible rfl
  rotate_left
  · simp only [Act.put, List.setIfInBounds_toArray, List.set_cons_zero, List.set_cons_succ, i64_w, i32_w]
    rfl
  refine pure_ (i := 3) (N := some 23) (v := ?_) (a' := ?_) #[true, true, true, true, false, false, false, false] rfl rfl (any_of HT_.out (by kernel_rfl)) (fun _ _ _ h => h) (Or.inl ⟨by rfl, ?_⟩) ?_ ?_
  rotate_left
  · intro w'
    go_simp
    with_reducible rfl
  rotate_left
  · simp only [Act.put, List.setIfInBounds_toArray, List.set_cons_zero, List.set_cons_succ, i64_w, i32_w]
    rfl
  refine pure_ (i := 4) (N := some 24) (v := ?_) (a' := ?_) #[true, true, true, true, true, false, false, false] rfl rfl (any_of HT_.out (by kernel_rfl)) (fun _ _ _ h => h) (Or.inl ⟨by rfl, ?_⟩) ?_ ?_
  rotate_left
  · intro w'
    go_simp
    with_reducible rfl
  rotate_left
  · simp only [Act.put, List.setIfInBounds_toArray, List.set_cons_zero, List.set_cons_succ, i64_w, i32_w]
    rfl
  refine pure_ (i := 5) (N := some 25) (v := ?_) (a' := ?_) #[true, true, true, true, true, true, false, false] rfl rfl (any_of HT_.out (by kernel_rfl)) (fun _ _ _ h => h) (Or.inl ⟨by rfl, ?_⟩) ?_ ?_
  rotate_left
  · intro w'
    go_simp
    with_reducible rfl
  rotate_left
  · simp only [Act.put, List.setIfInBounds_toArray, List.set_cons_zero, List.set_cons_succ, i64_w, i32_w]
    rfl
  refine one_ (i := 6) (N := some 26) #[true, true, true, true, true, true, true, false] rfl rfl (one_of HT_.out (by kernel_rfl)) (by decide) (fun K hK => ?_)
  refine event_step (v := .slice (some ⟨g, 0, none⟩) 1 c) (w1 := w6) (by rfl) (by first | (go_simp; done) | (go_simp; rfl)) ?_
  refine hK.out _ _ trivial (fun hHeld => ?_)
  clear hK K
  refine norm_ (a' := ?_) ?_ ?_
  rotate_left
  · show Act.put _ (some 26) _ = _
    simp only [Act.put, List.setIfInBounds_toArray, List.set_cons_zero, List.set_cons_succ, i64_w, i32_w]
    rfl
  refine pure_ (i := 7) (N := some 0) (v := ?_) (a' := ?_) #[true, true, true, true, true, true, true, true] rfl rfl (any_of HT_.out (by kernel_rfl)) (fun _ _ _ h => h) (Or.inl ⟨by rfl, ?_⟩) ?_ ?_
  rotate_left
  · intro w'
    go_simp
    with_reducible rfl
  rotate_left
  · simp only [Act.put, List.setIfInBounds_toArray, List.set_cons_zero, List.set_cons_succ, i64_w, i32_w]
    rfl
  refine done_ (done_of HT_.out (by kernel_rfl)) ?_
  go_wp2_with fail
  go_ret
  exact ⟨rfl, by rw [hw6.out]⟩
set_option maxHeartbeats 4000000 in
set_option maxRecDepth 100000 in
theorem delete_calls2 (g : Nat)  (hc2 : 2 ≤ 9223372036854775807) (w : World) (hcell : ∀ j, j < 4 → (w.cell? ⟨g, 4 + j, none⟩).isSome = true) (hf : ∀ j, j < 4 → w.frozen? ⟨g, 4 + j, none⟩ = false) :
    Calls Tryd.prog 23 #[.slice (some ⟨g, 0, none⟩) 2 2, .int .i64 1, .int .i64 2] w fun e w' => e = .returned (.slice (some ⟨g, 0, none⟩) 1 2) ∧ w' = w.drew.setCells g 4 [.int .i64 0, .string ⟨#[]⟩, .string ⟨#[]⟩, .slice none 0 0] := by
  obtain ⟨i0, hi, _⟩ := Option.map_eq_some_iff.1 info24
  have hclr : ∀ ty, (Builtin.clear_ #[38] ty #[.slice (some ⟨g, 4, none⟩) 1 1]).run Tryd.prog w.drew = .ok (.tuple #[]) (w.drew.setCells g 4 [.int .i64 0, .string ⟨#[]⟩, .string ⟨#[]⟩, .slice none 0 0]) := fun ty => run_clear_one w.drew 38 24 ty (.agg #[.int .i64 0, .string ⟨#[]⟩, .string ⟨#[]⟩, .slice none 0 0]) Tryd.underlying38 (fun w => by kernel_rfl) (by intro u hu; simp [Value.cells] at hu; rcases hu with rfl | rfl | rfl | rfl <;> rfl) g 4 1 (fun j hj => hcell j hj) (fun j hj => hf j hj)
  clear hcell hf hi
  go_enter Tryd.func23, Tryd.ntmps23
  go_wp2_with fail
  refine start_ (n := 8) (S := fun _ => True) (ds := []) #[false, false, false, false, false, false, false, false] (by kernel_rfl) rfl rfl trivial (fun hHeld => ?_)
  refine with_tabW delW.tab5 delW.bits5 (fun HT_ HW_ => ?_)
  generalize hw6 : w.drew = w6 at *
  replace hw6 := Aside0.mk hw6
  refine pure_ (i := 0) (N := some 20) (v := ?_) (a' := ?_) #[true, false, false, false, false, false, false, false] rfl rfl (any_of HT_.out (by kernel_rfl)) (fun _ _ _ h => h) (Or.inl ⟨by rfl, ?_⟩) ?_ ?_
  rotate_left
  · intro w'
    go_simp
    with_reducible rfl
  rotate_left
  · simp only [Act.put, List.setIfInBounds_toArray, List.set_cons_zero, List.set_cons_succ, i64_w, i32_w]
    rfl
  refine pure_ (i := 1) (N := some 21) (v := ?_) (a' := ?_) #[true, true, false, false, false, false, false, false] rfl rfl (any_of HT_.out (by kernel_rfl)) (fun _ _ _ h => h) (Or.inl ⟨by rfl, ?_⟩) ?_ ?_
  rotate_left
  · intro w'
    go_simp
    with_reducible rfl
  rotate_left
  · simp only [Act.put, List.setIfInBounds_toArray, List.set_cons_zero, List.set_cons_succ, i64_w, i32_w]
    rfl
  refine pure_ (i := 2) (N := some 22) (v := ?_) (a' := ?_) #[true, true, true, false, false, false, false, false] rfl rfl (any_of HT_.out (by kernel_rfl)) (fun _ _ _ h => h) (Or.inl ⟨by rfl, ?_⟩) ?_ ?_
  rotate_left
  · intro w'
    go_simp
    with_reducible rfl
  rotate_left
  · simp only [Act.put, List.setIfInBounds_toArray, List.set_cons_zero, List.set_cons_succ, i64_w, i32_w]
    rfl
  refine pure_ (i := 3) (N := some 23) (v := ?_) (a' := ?_) #[true, true, true, true, false, false, false, false] rfl rfl (any_of HT_.out (by kernel_rfl)) (fun _ _ _ h => h) (Or.inl ⟨by rfl, ?_⟩) ?_ ?_
  rotate_left
  · intro w'
    go_simp
    with_reducible rfl
  rotate_left
  · simp only [Act.put, List.setIfInBounds_toArray, List.set_cons_zero, List.set_cons_succ, i64_w, i32_w]
    rfl
  refine pure_ (i := 4) (N := some 24) (v := ?_) (a' := ?_) #[true, true, true, true, true, false, false, false] rfl rfl (any_of HT_.out (by kernel_rfl)) (fun _ _ _ h => h) (Or.inl ⟨by rfl, ?_⟩) ?_ ?_
  rotate_left
  · intro w'
    go_simp
    with_reducible rfl
  rotate_left
  · simp only [Act.put, List.setIfInBounds_toArray, List.set_cons_zero, List.set_cons_succ, i64_w, i32_w]
    rfl
  refine pure_ (i := 5) (N := some 25) (v := ?_) (a' := ?_) #[true, true, true, true, true, true, false, false] rfl rfl (any_of HT_.out (by kernel_rfl)) (fun _ _ _ h => h) (Or.inl ⟨by rfl, ?_⟩) ?_ ?_
  rotate_left
  · intro w'
    go_simp
    with_reducible rfl
  rotate_left
  · simp only [Act.put, List.setIfInBounds_toArray, List.set_cons_zero, List.set_cons_succ, i64_w, i32_w]
    rfl
  refine one_ (i := 6) (N := some 26) #[true, true, true, true, true, true, true, false] rfl rfl (one_of HT_.out (by kernel_rfl)) (by decide) (fun K hK => ?_)
  refine event_step (v := .slice (some ⟨g, 0, none⟩) 1 2) (w1 := w6) (by rfl) (by first | (go_simp; done) | (go_simp; rfl)) ?_
  refine hK.out _ _ trivial (fun hHeld => ?_)
  clear hK K
  refine norm_ (a' := ?_) ?_ ?_
  rotate_left
  · show Act.put _ (some 26) _ = _
    simp only [Act.put, List.setIfInBounds_toArray, List.set_cons_zero, List.set_cons_succ, i64_w, i32_w]
    rfl
  refine pure_ (i := 7) (N := some 0) (v := ?_) (a' := ?_) #[true, true, true, true, true, true, true, true] rfl rfl (any_of HT_.out (by kernel_rfl)) (fun _ _ _ h => h) (Or.inl ⟨by rfl, ?_⟩) ?_ ?_
  rotate_left
  · intro w'
    go_simp
    with_reducible rfl
  rotate_left
  · simp only [Act.put, List.setIfInBounds_toArray, List.set_cons_zero, List.set_cons_succ, i64_w, i32_w]
    rfl
  refine done_ (done_of HT_.out (by kernel_rfl)) ?_
  go_wp2_with fail
  go_ret
  exact ⟨rfl, by rw [hw6.out]⟩
theorem delete_calls (g c : Nat) (hc : 2 ≤ c) (hc2 : c ≤ 9223372036854775807) (w : World) (hcell : ∀ j, j < 4 → (w.cell? ⟨g, 4 + j, none⟩).isSome = true) (hf : ∀ j, j < 4 → w.frozen? ⟨g, 4 + j, none⟩ = false) :
    Calls Tryd.prog 23 #[.slice (some ⟨g, 0, none⟩) 2 c, .int .i64 1, .int .i64 2] w fun e w' => e = .returned (.slice (some ⟨g, 0, none⟩) 1 c) ∧ w' = w.drew.setCells g 4 [.int .i64 0, .string ⟨#[]⟩, .string ⟨#[]⟩, .slice none 0 0] := by
  by_cases h : c = 2
  · subst h
    exact delete_calls2 g hc2 w hcell hf
  · exact delete_calls3 g c (by omega) hc2 w hcell hf
-- SPOILT
theorem ch4 (w : World) (g o : Nat) (a b c d : Value) : w.setCells g o [a, b, c, d] = (((w.setCell ⟨g, o, none⟩ a).setCell ⟨g, o + 1, none⟩ b).setCell ⟨g, o + 1 + 1, none⟩ c).setCell ⟨g, o + 1 + 1 + 1, none⟩ d := rfl
set_option maxHeartbeats 8000000 in
set_option maxRecDepth 100000 in
theorem spoilt2_calls (a0 b0 a1 b1 : ByteArray) (A0 A1 : Option Addr) (n0 c0 n1 c1 : Nat) (ad : Addr) (cc : Nat) (w : World) (hr : Kd.C (Kd.raw 4) w (some ad) 2 [docL 0 a0 b0 A0 n0 c0, docL 1 a1 b1 A1 n1 c1]) :
    Calls Tryd.prog 10 #[.int .i64 2, .slice (some ad) 2 cc] w fun e w' => ∃ g c, e = .returned (.slice (some ⟨g, 0, none⟩) 1 c) ∧ w'.cell? ⟨g, 0, none⟩ = some (.int .i64 0) ∧ Below w.heap.size w w' := by
  have HC := Aside0.mk (clone2_calls a0 b0 a1 b1 A0 A1 n0 c0 n1 c1 ad cc w hr)
  clear hr
  go_enter Tryd.func10, Tryd.ntmps10
  go_wp2_with fail
  refine HC.out.mono ?_
  rintro e w1 ⟨v, rfl, hR, hB1⟩
  obtain ⟨A, c, hv, hlc, hCC⟩ := Kd.R_reads hR
  replace hv : v = .slice A 2 c := hv
  obtain ⟨adg, c_, hv2⟩ := Kd.R_slice1 hR (by simp)
  rw [hv] at hv2
  obtain ⟨rfl⟩ : A = some adg := by injection hv2
  subst hv
  obtain ⟨g, rfl⟩ := Kd.R_head hR
  obtain ⟨e0, _, ⟨h0, _, _⟩, k0, _⟩ := Kd.R_elem hR [] 0 (by decide) (by decide)
  obtain ⟨e1, _, ⟨h1, _, _⟩, k1, z1⟩ := Kd.R_elem hR [] 1 (by decide) (by decide)
  have hge : w.heap.size ≤ g := Kd.R_base hR g (by simp [Value.ownBlock])
  replace h0 : e0 = docL 0 a0 b0 A0 n0 c0 := h0
  replace h1 : e1 = docL 1 a1 b1 A1 n1 c1 := h1
  subst h0
  subst h1
  have q0 : w1.cell? ⟨g, 0, none⟩ = some (.int .i64 0) ∧ w1.cell? ⟨g, 1, none⟩ = some (.string a0) ∧ w1.cell? ⟨g, 2, none⟩ = some (.string b0) ∧ w1.cell? ⟨g, 3, none⟩ = some (.slice A0 n0 c0) := ⟨k0 0 _ rfl, k0 1 _ rfl, k0 2 _ rfl, k0 3 _ rfl⟩
  have q1 : w1.cell? ⟨g, 4, none⟩ = some (.int .i64 1) ∧ w1.cell? ⟨g, 5, none⟩ = some (.string a1) ∧ w1.cell? ⟨g, 6, none⟩ = some (.string b1) ∧ w1.cell? ⟨g, 7, none⟩ = some (.slice A1 n1 c1) := ⟨k1 0 _ rfl, k1 1 _ rfl, k1 2 _ rfl, k1 3 _ rfl⟩
  obtain ⟨cur, hcur⟩ := R_block hR
  have hglt := blk_lt hcur
  have hcap : 2 ≤ c := hlc
  have hcap2 : c ≤ 9223372036854775807 := by
    obtain ⟨_, inner, ho, _⟩ := hR
    rcases ho.2 with ⟨e1, _⟩ | ⟨g', cap', cur', e1, _, _, hnc, hcm, _⟩
    · cases e1
    · injection e1 with _ _ e1
      subst e1
      unfold maxLen at hcm
      omega
  have B1 := Aside0.mk (hB1.alloc hB1.size (.cells #[.slice (some ⟨g, 0, none⟩) 2 c] 38))
  have K1 : Aside0 ((w1.alloc (.cells #[.slice (some ⟨g, 0, none⟩) 2 c] 38)).heap[w1.heap.size]? = some (.cells #[.slice (some ⟨g, 0, none⟩) 2 c] 38 (0, 0))) := ⟨heap_alloc_new w1 _⟩
  have Ba : Aside0 (Below w1.heap.size w1 (w1.alloc (.cells #[.slice (some ⟨g, 0, none⟩) 2 c] 38))) := ⟨(Below.refl _ _).alloc (Nat.le_refl _) _⟩
  have KG := Aside0.mk (blk_belowS hcur Ba.out)
  have HP := Aside0.mk (place2_calls a0 b0 a1 b1 A0 A1 n0 c0 n1 c1 g c w1.heap.size (w1.alloc (.cells #[.slice (some ⟨g, 0, none⟩) 2 c] 38)) K1.out ⟨cellB' Ba.out q0.1, cellB' Ba.out q0.2.1, cellB' Ba.out q0.2.2.1, cellB' Ba.out q0.2.2.2⟩ ⟨cellB' Ba.out q1.1, cellB' Ba.out q1.2.1, cellB' Ba.out q1.2.2.1, cellB' Ba.out q1.2.2.2⟩)
  have Q0 : Aside0 ((w1.alloc (.cells #[.slice (some ⟨g, 0, none⟩) 2 c] 38)).cell? ⟨g, 0, none⟩ = some (.int .i64 0)) := ⟨cellB' Ba.out q0.1⟩
  have Q1 : Aside0 (∀ j, j < 4 → ((w1.alloc (.cells #[.slice (some ⟨g, 0, none⟩) 2 c] 38)).cell? ⟨g, 4 + j, none⟩).isSome = true) := ⟨fun j hj => by
    rcases j with _ | _ | _ | _ | j
    · rw [cellB' Ba.out q1.1]; rfl
    · rw [cellB' Ba.out q1.2.1]; rfl
    · rw [cellB' Ba.out q1.2.2.1]; rfl
    · rw [cellB' Ba.out q1.2.2.2]; rfl
    · omega⟩
  have hne : Aside0 (g ≠ w1.heap.size) := ⟨by omega⟩
  replace hge := Aside0.mk hge
  replace hglt := Aside0.mk hglt
  have hsz := Aside0.mk hB1.size
  clear HC hR hCC k0 k1 z1 q0 q1 hcur hB1 hv2
  go_wp2_with fail
  refine HP.out.mono ?_
  rintro e w2 ⟨rfl, hB2⟩
  replace K1 := Aside0.mk (blk_belowS K1.out hB2)
  replace KG := Aside0.mk (blk_belowS KG.out hB2)
  replace Q0 := Aside0.mk (cellB' hB2 Q0.out)
  replace Q1 : Aside0 (∀ j, j < 4 → (w2.cell? ⟨g, 4 + j, none⟩).isSome = true) := ⟨fun j hj => by
    obtain ⟨u, hu⟩ := Option.isSome_iff_exists.1 (Q1.out j hj)
    rw [cellB' hB2 hu]; rfl⟩
  replace B1 := Aside0.mk (B1.out.trans (hB2.mono B1.out.size))
  have HD := Aside0.mk (delete_calls g c hcap hcap2 w2 Q1.out (fun j _ => blk_frozen KG.out _))
  have s0 := box_cell K1.out
  clear HP hB2 Ba Q1
  go_wp2_with fail
  refine HD.out.mono ?_
  rintro e w3 ⟨rfl, hw3⟩
  rw [ch4] at hw3
  have K3 : w3.heap[w1.heap.size]? = some (.cells #[.slice (some ⟨g, 0, none⟩) 2 c] 38 (0, 0)) := by
    rw [hw3, Below.heap_setCell _ _ _ _ hne.out.symm, Below.heap_setCell _ _ _ _ hne.out.symm, Below.heap_setCell _ _ _ _ hne.out.symm, Below.heap_setCell _ _ _ _ hne.out.symm]
    exact K1.out
  have Q3 : w3.cell? ⟨g, 0, none⟩ = some (.int .i64 0) := by
    rw [hw3, World.cell?_setCell_other _ _ _ _ (by simp), World.cell?_setCell_other _ _ _ _ (by simp), World.cell?_setCell_other _ _ _ _ (by simp), World.cell?_setCell_other _ _ _ _ (by simp)]
    exact Q0.out
  have B3 : Below w.heap.size w w3 := by
    rw [hw3]
    exact (((B1.out.drew.setCell (p := ⟨g, 4, none⟩) hge.out _).setCell (p := ⟨g, 4 + 1, none⟩) hge.out _).setCell (p := ⟨g, 4 + 1 + 1, none⟩) hge.out _).setCell (p := ⟨g, 4 + 1 + 1 + 1, none⟩) hge.out _
  clear hw3 HD K1 KG Q0 B1 s0
  have s1 := box_cell K3
  have f1 := blk_frozen K3 0
  have K4 := Aside0.mk (blk_put K3 0 (.slice (some ⟨g, 0, none⟩) 1 c) rfl)
  have s2 := box_cell K4.out
  have hend : Aside0 ((w3.setCell ⟨w1.heap.size, 0, none⟩ (.slice (some ⟨g, 0, none⟩) 1 c)).cell? ⟨g, 0, none⟩ = some (.int .i64 0) ∧ Below w.heap.size w (w3.setCell ⟨w1.heap.size, 0, none⟩ (.slice (some ⟨g, 0, none⟩) 1 c))) := ⟨by
    rw [World.cell?_setCell_other _ _ _ _ (by intro e; injection e with e; exact hne.out e.symm)]
    exact Q3, B3.setCell (p := ⟨w1.heap.size, 0, none⟩) hsz.out _⟩
  clear K3 Q3 B3 K4
  go_wp2_with fail
  go_ret
  exact ⟨g, c, rfl, hend.out⟩
end Go.Proofs.YtglgajammfcmcaaDoor.A

/- sense.cases walked. -/
import Derived.Test.YtlgcceojnbobeaaDoorCasesP
import Derived.Test.YtlgcceojnbobeaaDoorAx5
namespace Go.Proofs.YtlgcceojnbobeaaDoor.A
open Go.RowKit Go.Shelf Go.Proofs.YtlgcceojnbobeaaDoorW.PrintWords Go.Proofs.YtlgcceojnbobeaaDoorW.PrintLast Go.Proofs.YtlgcceojnbobeaaDoorW.PrintMore
set_option linter.unusedVariables false
set_option linter.unusedSimpArgs false

def cr (rows : List (List At)) : List (List Core) := rows.map (List.map At.c)
theorem R_block {α : Type} (d : Kd α) {e : Nat} {W : World} {g base : Nat} {ok : Nat → Prop} {cs : List Value} {x : α} (hb : W.heap[g]? = some (.cells cs.toArray e (0, 0))) (hbase : base ≤ g) (hok : ok g) (hM : d.M W base (fun k => ok k ∧ some k ≠ some g) x cs) (hs : cs.length = d.sz) : d.R e W base ok (.slice (some ⟨g, 0, none⟩) 1 1) [x] :=
  ⟨fun k hk => by have : g = k := by simpa [Value.ownBlock] using hk
                  exact this ▸ hok, cs, ⟨by simpa using hs, .inr ⟨g, 1, cs.toArray, rfl, hbase, hb, Nat.le_refl _, by decide, by simpa using hs, by simp [← hs]⟩⟩, by have := Reps.snoc (Reps.none (d.M W base (fun k => ok k ∧ some k ≠ some g)) d.sz) hM hs; exact this⟩
theorem one_row (w1 : World) (base : Nat) (hb : base ≤ w1.heap.size) (x : At) (hx : x.l.oneCell' = true) : kRow.R 22 ((w1.alloc (.cells (atC x).toArray 24)).alloc (.cells #[.slice (some ⟨w1.heap.size, 0, none⟩) 1 1] 22)) base (fun _ => True) (.slice (some ⟨w1.heap.size + 1, 0, none⟩) 1 1) [[x]] := by
  have h2 := heap_alloc_new (w1.alloc (.cells (atC x).toArray 24)) (.cells #[.slice (some ⟨w1.heap.size, 0, none⟩) 1 1] 22)
  rw [World.size_alloc] at h2
  have h1 : ((w1.alloc (.cells (atC x).toArray 24)).alloc (.cells #[.slice (some ⟨w1.heap.size, 0, none⟩) 1 1] 22)).heap[w1.heap.size]? = some (.cells (atC x).toArray 24 (0, 0)) := ((below_alloc (Below.refl _ _) _).block _ (by simp)).trans (heap_alloc_new w1 _)
  exact R_block kRow (cs := [.slice (some ⟨w1.heap.size, 0, none⟩) 1 1]) h2 (by omega) trivial ⟨_, rfl, R_block kAt (cs := atC x) h1 hb ⟨trivial, by simp⟩ (kAt_mkM _ _ _ x hx) rfl⟩ rfl
/-- A literal row of rows is read. -/
theorem lit_reads (Rr : List At → List Value → Prop) (W : World) (g : Nat) (vs : List Value) (xs : List (List At)) (hb : W.heap[g]? = some (.cells vs.toArray 22 (0, 0))) (hl : xs.length = vs.length) (hm : vs.length ≤ 9223372036854775807) (h : ∀ (j : Nat) (x : List At) (v : Value), xs[j]? = some x → vs[j]? = some v → Rr x [v]) : ReadsRow Rr 1 W (some ⟨g, 0, none⟩) vs.length xs := by
  refine ⟨hl, hm, fun _ => ⟨_, rfl, fun j p hp => ?_⟩⟩
  have hj : j < vs.length := by rw [← hl]; exact (List.getElem?_eq_some_iff.1 hp).1
  refine ⟨[vs[j]], rfl, h j p vs[j] hp (List.getElem?_eq_getElem hj), fun i u hu => ?_⟩
  cases i with
  | zero =>
    simp only [List.getElem?_cons_zero, Option.some.injEq] at hu
    subst hu
    rw [Nat.mul_one, Nat.add_zero]
    have h1 := blk_cell hb j
    have e1 : (Addr.add ⟨g, 0, none⟩ j) = ⟨g, j, none⟩ := by rw [Addr.add]; simp; rintro rfl; rfl
    rw [e1, h1, List.getElem?_toArray, List.getElem?_eq_getElem hj]
  | succ i => simp at hu
def nv (x : S24) (A : Option Addr) (c : Nat) : Value := .agg #[.int .i64 x.f0, .int .i64 x.f1, .string x.f2, .string x.f3, .int .i64 x.f4, .slice A x.f5.length c]
def isAtom (k : Int) : Bool := decide (3 ≤ k ∧ k ≤ 7)
theorem atom_is (k p n : Int) (f t : ByteArray) (l : List S24) : sense_atom.f k p f t n l = some (isAtom k) := by
  unfold sense_atom.f isAtom
  by_cases h : k ≥ 3
  · rw [if_pos h]; simp [h]
  · rw [if_neg h]; simp; omega
/-- cases' first steps: the node in its block, a row with an empty row, the question whether it is an atom. -/
theorem box_at (w : World) (k p n : Int) (f t : ByteArray) (L : Value) : Box24 (w.alloc (.cells (nodeC ⟨k, f, t, n⟩ p L) 24)) w.heap.size ⟨k, f, t, n⟩ p L := heap_alloc_new w _
set_option maxHeartbeats 4000000 in
set_option maxRecDepth 100000 in
theorem cases_atom (k p n : Int) (f t : ByteArray) (l : List S24) (A : Option Addr) (c : Nat) (w : World) (hC : Kd.C k24 w A l.length l) (hc : l.length ≤ c) (h : 3 ≤ k ∧ k ≤ 7) :
    Calls Tryd.prog 22 #[.agg #[.int .i64 k, .int .i64 p, .string f, .string t, .int .i64 n, .slice A l.length c]] w fun e w' => ∃ v rows, e = .returned v ∧ kRow.R 22 w' w.heap.size (fun _ => True) v rows ∧ cr rows = [[⟨k, f, t, n⟩]] ∧ Below w.heap.size w w' := by
  have HB : Aside0 (∀ o, Box24 ((w.alloc (.cells (nodeC ⟨k, f, t, n⟩ p (.slice A l.length c)) 24)).alloc o) w.heap.size ⟨k, f, t, n⟩ p (.slice A l.length c)) := ⟨fun o => (box_at w k p n f t _).below (below_alloc (Below.refl _ _) o)⟩
  have HW : Aside0 (∀ o, Below w.heap.size w ((w.alloc (.cells (nodeC ⟨k, f, t, n⟩ p (.slice A l.length c)) 24)).alloc o)) := ⟨fun o => ((Below.refl _ _).alloc (Nat.le_refl _) _).alloc (by simp) _⟩
  have HQ : Aside0 (∀ w1, Below w.heap.size w w1 → Calls Tryd.prog 33 #[.agg #[.int .i64 k, .int .i64 p, .string f, .string t, .int .i64 n, .slice A l.length c]] w1 fun e w' => e = .returned (.bool true) ∧ Below w1.heap.size w1 w') := ⟨fun w1 hb => sense_atom.calls k p f t n A c l true w1 (Kd.C_below hC hb) hc (by rw [atom_is]; simp [isAtom, h])⟩
  unfold nodeC at HB HW
  clear hC
  go_enter Tryd.func22, Tryd.ntmps22
  go_wp2_with fail
  refine (HQ.out _ (HW.out _)).mono ?_
  rintro e w1 ⟨rfl, hB1⟩
  have H1 := (HB.out (.cells #[.slice none 0 0] 22)).below hB1
  have B1 : Aside0 (Below w.heap.size w w1) := ⟨(HW.out _).trans (hB1.mono (by simp; omega))⟩
  have a0 := H1.c0
  have a1 := H1.c1
  have a2 := H1.c2
  have a3 := H1.c3
  have a4 := H1.c4
  have a5 := H1.c5
  simp only at a0 a1 a2 a3 a4 a5
  clear H1 hB1 HQ HB HW
  go_wp2_with fail
  go_ret
  refine ⟨_, [[⟨⟨k, f, t, n⟩, p, .slice A l.length c⟩]], rfl, one_row w1 _ B1.out.size ⟨⟨k, f, t, n⟩, p, .slice A l.length c⟩ rfl, rfl, (B1.out.alloc B1.out.size _).alloc (by simp; have := B1.out.size; omega) _⟩
end Go.Proofs.YtlgcceojnbobeaaDoor.A

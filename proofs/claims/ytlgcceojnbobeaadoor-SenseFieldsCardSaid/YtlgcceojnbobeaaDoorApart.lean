/- sense.apart: can two atoms of one field never hold at once? -/
import Derived.Test.YtlgcceojnbobeaaDoorNumber
import Derived.Lib.Strings
import Derived.Deep.QuietTactic
import Derived.BigQuiet
namespace Go.Proofs.YtlgcceojnbobeaaDoor.A
open Go.RowKit Go.Shelf Go.Lib Go.Proofs.YtlgcceojnbobeaaDoorW.PrintWords Go.Proofs.YtlgcceojnbobeaaDoorW.PrintLast Go.Proofs.YtlgcceojnbobeaaDoorW.PrintMore
set_option linter.unusedVariables false
set_option linter.unusedSimpArgs false

/-- What an atom is, for this question. -/
structure Core where
  k : Int
  f : ByteArray
  t : ByteArray
  n : Int
open Classical in
/-- Can two atoms never hold at once? -/
noncomputable def apartP (a b : Core) : Bool :=
  if a.f ≠ b.f then false
  else if a.k = 3 then
    if b.k = 3 then decide (a.t ≠ b.t)
    else if b.k = 5 then !(valP a.t.data.toList 1).2 || decide (b.n < (valP a.t.data.toList 1).1)
    else if b.k = 6 then !(valP a.t.data.toList 1).2 || decide ((valP a.t.data.toList 1).1 < b.n)
    else if b.k = 4 then !Lib.contains a.t.data.toList b.t.data.toList
    else false
  else if a.k = 5 then (if b.k = 6 then decide (a.n < b.n) else false)
  else false
/-- An atom's cells. -/
def nodeV (c : Core) (p : Int) (L : Value) : Value := .agg #[.int .i64 c.k, .int .i64 p, .string c.f, .string c.t, .int .i64 c.n, L]
def nodeC (c : Core) (p : Int) (L : Value) : Array Value := #[.int .i64 c.k, .int .i64 p, .string c.f, .string c.t, .int .i64 c.n, L]
/-- An atom in a block of its own. -/
def Box24 (w : World) (g : Nat) (c : Core) (p : Int) (L : Value) : Prop := w.heap[g]? = some (.cells (nodeC c p L) 24 (0, 0))
section
variable {w w' : World} {g : Nat} {c : Core} {p : Int} {L : Value} (h : Box24 w g c p L)
include h
theorem Box24.below (hb : Below w.heap.size w w') : Box24 w' g c p L := (hb.block g (blk_lt h)).trans h
theorem Box24.c0 : w.cell? ⟨g, 0, none⟩ = some (.int .i64 c.k) := (blk_cell h 0).trans rfl
theorem Box24.c1 : w.cell? ⟨g, 1, none⟩ = some (.int .i64 p) := (blk_cell h 1).trans rfl
theorem Box24.c2 : w.cell? ⟨g, 2, none⟩ = some (.string c.f) := (blk_cell h 2).trans rfl
theorem Box24.c3 : w.cell? ⟨g, 3, none⟩ = some (.string c.t) := (blk_cell h 3).trans rfl
theorem Box24.c4 : w.cell? ⟨g, 4, none⟩ = some (.int .i64 c.n) := (blk_cell h 4).trans rfl
theorem Box24.c5 : w.cell? ⟨g, 5, none⟩ = some L := (blk_cell h 5).trans rfl
end
theorem contains_calls (s sub : ByteArray) (hs : s.size < 4294967281) (w : World) (hg : Glob w) :
    Calls Tryd.prog 47 #[.string s, .string sub] w fun e w' => e = .returned (.bool (Lib.contains s.data.toList sub.data.toList)) ∧ w' = w := by
  obtain ⟨m, hm⟩ := hg.max
  exact Any.strings_Contains { Tryd.laysM144 with } s sub m w hs hm

set_option maxHeartbeats 4000000 in
set_option maxRecDepth 100000 in
theorem apart_field (ak bk an bn pa pb : Int) (af bf at_ bt : ByteArray) (La Lb : Value) (v1 : Int) (v2 : Bool) (w : World) (hg : Glob w) (hs : at_.size ≤ 1000) (hv : valP at_.data.toList 1 = (v1, v2)) (c1 : af ≠ bf) :
    Calls Tryd.prog 38 #[.agg #[.int .i64 (ak), .int .i64 pa, .string af, .string at_, .int .i64 an, La], .agg #[.int .i64 (bk), .int .i64 pb, .string bf, .string bt, .int .i64 bn, Lb]] w fun e w' => e = .returned (.bool false) ∧ Below w.heap.size w w' := by
  have HG := Aside0.mk hg
  have hs1 : at_.size ≤ 281474976710656 := by omega
  have HA : Aside0 (∀ o, Box24 ((w.alloc (.cells (nodeC ⟨ak, af, at_, an⟩ pa La) 24)).alloc o) w.heap.size ⟨ak, af, at_, an⟩ pa La) := ⟨fun o => Box24.below (heap_alloc_new w _) (below_alloc (Below.refl _ _) o)⟩
  have HB : Aside0 (∀ o, Box24 ((w.alloc o).alloc (.cells (nodeC ⟨bk, bf, bt, bn⟩ pb Lb) 24)) (w.heap.size + 1) ⟨bk, bf, bt, bn⟩ pb Lb) := ⟨fun o => by have := heap_alloc_new (w.alloc o) (.cells (nodeC ⟨bk, bf, bt, bn⟩ pb Lb) 24 (0, 0)); rwa [World.size_alloc] at this⟩
  have B2 : Aside0 (Below w.heap.size w ((w.alloc (.cells (nodeC ⟨ak, af, at_, an⟩ pa La) 24)).alloc (.cells (nodeC ⟨bk, bf, bt, bn⟩ pb Lb) 24))) := ⟨((Below.refl _ _).alloc (Nat.le_refl _) _).alloc (by simp) _⟩
  have HC : ∀ w1, Below ((w.alloc (.cells (nodeC ⟨ak, af, at_, an⟩ pa La) 24)).alloc (.cells (nodeC ⟨bk, bf, bt, bn⟩ pb Lb) 24)).heap.size ((w.alloc (.cells (nodeC ⟨ak, af, at_, an⟩ pa La) 24)).alloc (.cells (nodeC ⟨bk, bf, bt, bn⟩ pb Lb) 24)) w1 → Box24 w1 w.heap.size ⟨ak, af, at_, an⟩ pa La ∧ Box24 w1 (w.heap.size + 1) ⟨bk, bf, bt, bn⟩ pb Lb ∧ Below w.heap.size w w1 :=
    fun w1 h => ⟨(HA.out _).below h, (HB.out _).below h, B2.out.trans (h.mono B2.out.size)⟩
  replace HC := Aside0.mk HC
  have HV := value_calls at_ 1 hs1 _ (HG.out.below B2.out)
  rw [hv] at HV
  replace HV := Aside0.mk HV
  unfold nodeC at HC HV
  simp only at HC HV
  clear hg HA HB B2 hv
  have c10 : (af.toList == bf.toList) = false := txt_ne (fun e => c1 (by rw [← tx_of af, ← tx_of bf, e]))
  have c11 : (af.toList != bf.toList) = true := by simpa using c10
  clear c1
  go_enter Tryd.func38, Tryd.ntmps38
  go_wp2_with fail
  refine HV.out.mono ?_
  rintro e w1 ⟨rfl, hB1⟩
  obtain ⟨H1, H2, H3⟩ := HC.out w1 hB1
  have a0 := H1.c0
  have a2 := H1.c2
  have a3 := H1.c3
  have a4 := H1.c4
  have b0 := H2.c0
  have b2 := H2.c2
  have b3 := H2.c3
  have b4 := H2.c4
  simp only at a0 a2 a3 a4 b0 b2 b3 b4
  replace H3 := Aside0.mk H3
  clear H1 H2 hB1
  go_wp2_with fail
  go_ret
  exact ⟨rfl, H3.out⟩

set_option maxHeartbeats 4000000 in
set_option maxRecDepth 100000 in
theorem apart_same (ak bk an bn pa pb : Int) (af bf at_ bt : ByteArray) (La Lb : Value) (v1 : Int) (v2 : Bool) (w : World) (hg : Glob w) (hs : at_.size ≤ 1000) (hv : valP at_.data.toList 1 = (v1, v2))  :
    Calls Tryd.prog 38 #[.agg #[.int .i64 (3), .int .i64 pa, .string af, .string at_, .int .i64 an, La], .agg #[.int .i64 (3), .int .i64 pb, .string af, .string at_, .int .i64 bn, Lb]] w fun e w' => e = .returned (.bool false) ∧ Below w.heap.size w w' := by
  have HG := Aside0.mk hg
  have hs1 : at_.size ≤ 281474976710656 := by omega
  have HA : Aside0 (∀ o, Box24 ((w.alloc (.cells (nodeC ⟨3, af, at_, an⟩ pa La) 24)).alloc o) w.heap.size ⟨3, af, at_, an⟩ pa La) := ⟨fun o => Box24.below (heap_alloc_new w _) (below_alloc (Below.refl _ _) o)⟩
  have HB : Aside0 (∀ o, Box24 ((w.alloc o).alloc (.cells (nodeC ⟨3, af, at_, bn⟩ pb Lb) 24)) (w.heap.size + 1) ⟨3, af, at_, bn⟩ pb Lb) := ⟨fun o => by have := heap_alloc_new (w.alloc o) (.cells (nodeC ⟨3, af, at_, bn⟩ pb Lb) 24 (0, 0)); rwa [World.size_alloc] at this⟩
  have B2 : Aside0 (Below w.heap.size w ((w.alloc (.cells (nodeC ⟨3, af, at_, an⟩ pa La) 24)).alloc (.cells (nodeC ⟨3, af, at_, bn⟩ pb Lb) 24))) := ⟨((Below.refl _ _).alloc (Nat.le_refl _) _).alloc (by simp) _⟩
  have HC : ∀ w1, Below ((w.alloc (.cells (nodeC ⟨3, af, at_, an⟩ pa La) 24)).alloc (.cells (nodeC ⟨3, af, at_, bn⟩ pb Lb) 24)).heap.size ((w.alloc (.cells (nodeC ⟨3, af, at_, an⟩ pa La) 24)).alloc (.cells (nodeC ⟨3, af, at_, bn⟩ pb Lb) 24)) w1 → Box24 w1 w.heap.size ⟨3, af, at_, an⟩ pa La ∧ Box24 w1 (w.heap.size + 1) ⟨3, af, at_, bn⟩ pb Lb ∧ Below w.heap.size w w1 :=
    fun w1 h => ⟨(HA.out _).below h, (HB.out _).below h, B2.out.trans (h.mono B2.out.size)⟩
  replace HC := Aside0.mk HC
  have HV := value_calls at_ 1 hs1 _ (HG.out.below B2.out)
  rw [hv] at HV
  replace HV := Aside0.mk HV
  unfold nodeC at HC HV
  simp only at HC HV
  clear hg HA HB B2 hv
  go_enter Tryd.func38, Tryd.ntmps38
  go_wp2_with fail
  refine HV.out.mono ?_
  rintro e w1 ⟨rfl, hB1⟩
  obtain ⟨H1, H2, H3⟩ := HC.out w1 hB1
  have a0 := H1.c0
  have a2 := H1.c2
  have a3 := H1.c3
  have a4 := H1.c4
  have b0 := H2.c0
  have b2 := H2.c2
  have b3 := H2.c3
  have b4 := H2.c4
  simp only at a0 a2 a3 a4 b0 b2 b3 b4
  replace H3 := Aside0.mk H3
  clear H1 H2 hB1
  go_wp2_with fail
  go_ret
  exact ⟨rfl, H3.out⟩

set_option maxHeartbeats 4000000 in
set_option maxRecDepth 100000 in
theorem apart_text (ak bk an bn pa pb : Int) (af bf at_ bt : ByteArray) (La Lb : Value) (v1 : Int) (v2 : Bool) (w : World) (hg : Glob w) (hs : at_.size ≤ 1000) (hv : valP at_.data.toList 1 = (v1, v2)) (c1 : at_ ≠ bt) :
    Calls Tryd.prog 38 #[.agg #[.int .i64 (3), .int .i64 pa, .string af, .string at_, .int .i64 an, La], .agg #[.int .i64 (3), .int .i64 pb, .string af, .string bt, .int .i64 bn, Lb]] w fun e w' => e = .returned (.bool true) ∧ Below w.heap.size w w' := by
  have HG := Aside0.mk hg
  have hs1 : at_.size ≤ 281474976710656 := by omega
  have HA : Aside0 (∀ o, Box24 ((w.alloc (.cells (nodeC ⟨3, af, at_, an⟩ pa La) 24)).alloc o) w.heap.size ⟨3, af, at_, an⟩ pa La) := ⟨fun o => Box24.below (heap_alloc_new w _) (below_alloc (Below.refl _ _) o)⟩
  have HB : Aside0 (∀ o, Box24 ((w.alloc o).alloc (.cells (nodeC ⟨3, af, bt, bn⟩ pb Lb) 24)) (w.heap.size + 1) ⟨3, af, bt, bn⟩ pb Lb) := ⟨fun o => by have := heap_alloc_new (w.alloc o) (.cells (nodeC ⟨3, af, bt, bn⟩ pb Lb) 24 (0, 0)); rwa [World.size_alloc] at this⟩
  have B2 : Aside0 (Below w.heap.size w ((w.alloc (.cells (nodeC ⟨3, af, at_, an⟩ pa La) 24)).alloc (.cells (nodeC ⟨3, af, bt, bn⟩ pb Lb) 24))) := ⟨((Below.refl _ _).alloc (Nat.le_refl _) _).alloc (by simp) _⟩
  have HC : ∀ w1, Below ((w.alloc (.cells (nodeC ⟨3, af, at_, an⟩ pa La) 24)).alloc (.cells (nodeC ⟨3, af, bt, bn⟩ pb Lb) 24)).heap.size ((w.alloc (.cells (nodeC ⟨3, af, at_, an⟩ pa La) 24)).alloc (.cells (nodeC ⟨3, af, bt, bn⟩ pb Lb) 24)) w1 → Box24 w1 w.heap.size ⟨3, af, at_, an⟩ pa La ∧ Box24 w1 (w.heap.size + 1) ⟨3, af, bt, bn⟩ pb Lb ∧ Below w.heap.size w w1 :=
    fun w1 h => ⟨(HA.out _).below h, (HB.out _).below h, B2.out.trans (h.mono B2.out.size)⟩
  replace HC := Aside0.mk HC
  have HV := value_calls at_ 1 hs1 _ (HG.out.below B2.out)
  rw [hv] at HV
  replace HV := Aside0.mk HV
  unfold nodeC at HC HV
  simp only at HC HV
  clear hg HA HB B2 hv
  have c10 : (at_.toList == bt.toList) = false := txt_ne (fun e => c1 (by rw [← tx_of at_, ← tx_of bt, e]))
  have c11 : (at_.toList != bt.toList) = true := by simpa using c10
  clear c1
  go_enter Tryd.func38, Tryd.ntmps38
  go_wp2_with fail
  refine HV.out.mono ?_
  rintro e w1 ⟨rfl, hB1⟩
  obtain ⟨H1, H2, H3⟩ := HC.out w1 hB1
  have a0 := H1.c0
  have a2 := H1.c2
  have a3 := H1.c3
  have a4 := H1.c4
  have b0 := H2.c0
  have b2 := H2.c2
  have b3 := H2.c3
  have b4 := H2.c4
  simp only at a0 a2 a3 a4 b0 b2 b3 b4
  replace H3 := Aside0.mk H3
  clear H1 H2 hB1
  go_wp2_with fail
  go_ret
  exact ⟨rfl, H3.out⟩

set_option maxHeartbeats 4000000 in
set_option maxRecDepth 100000 in
theorem apart_most_no (ak bk an bn pa pb : Int) (af bf at_ bt : ByteArray) (La Lb : Value) (v1 : Int) (v2 : Bool) (w : World) (hg : Glob w) (hs : at_.size ≤ 1000) (hv : valP at_.data.toList 1 = (v1, v2)) (c1 : v2 = false) :
    Calls Tryd.prog 38 #[.agg #[.int .i64 (3), .int .i64 pa, .string af, .string at_, .int .i64 an, La], .agg #[.int .i64 (5), .int .i64 pb, .string af, .string bt, .int .i64 bn, Lb]] w fun e w' => e = .returned (.bool true) ∧ Below w.heap.size w w' := by
  have HG := Aside0.mk hg
  have hs1 : at_.size ≤ 281474976710656 := by omega
  have HA : Aside0 (∀ o, Box24 ((w.alloc (.cells (nodeC ⟨3, af, at_, an⟩ pa La) 24)).alloc o) w.heap.size ⟨3, af, at_, an⟩ pa La) := ⟨fun o => Box24.below (heap_alloc_new w _) (below_alloc (Below.refl _ _) o)⟩
  have HB : Aside0 (∀ o, Box24 ((w.alloc o).alloc (.cells (nodeC ⟨5, af, bt, bn⟩ pb Lb) 24)) (w.heap.size + 1) ⟨5, af, bt, bn⟩ pb Lb) := ⟨fun o => by have := heap_alloc_new (w.alloc o) (.cells (nodeC ⟨5, af, bt, bn⟩ pb Lb) 24 (0, 0)); rwa [World.size_alloc] at this⟩
  have B2 : Aside0 (Below w.heap.size w ((w.alloc (.cells (nodeC ⟨3, af, at_, an⟩ pa La) 24)).alloc (.cells (nodeC ⟨5, af, bt, bn⟩ pb Lb) 24))) := ⟨((Below.refl _ _).alloc (Nat.le_refl _) _).alloc (by simp) _⟩
  have HC : ∀ w1, Below ((w.alloc (.cells (nodeC ⟨3, af, at_, an⟩ pa La) 24)).alloc (.cells (nodeC ⟨5, af, bt, bn⟩ pb Lb) 24)).heap.size ((w.alloc (.cells (nodeC ⟨3, af, at_, an⟩ pa La) 24)).alloc (.cells (nodeC ⟨5, af, bt, bn⟩ pb Lb) 24)) w1 → Box24 w1 w.heap.size ⟨3, af, at_, an⟩ pa La ∧ Box24 w1 (w.heap.size + 1) ⟨5, af, bt, bn⟩ pb Lb ∧ Below w.heap.size w w1 :=
    fun w1 h => ⟨(HA.out _).below h, (HB.out _).below h, B2.out.trans (h.mono B2.out.size)⟩
  replace HC := Aside0.mk HC
  have HV := value_calls at_ 1 hs1 _ (HG.out.below B2.out)
  rw [hv] at HV
  replace HV := Aside0.mk HV
  unfold nodeC at HC HV
  simp only at HC HV
  clear hg HA HB B2 hv
  subst c1
  go_enter Tryd.func38, Tryd.ntmps38
  go_wp2_with fail
  refine HV.out.mono ?_
  rintro e w1 ⟨rfl, hB1⟩
  obtain ⟨H1, H2, H3⟩ := HC.out w1 hB1
  have a0 := H1.c0
  have a2 := H1.c2
  have a3 := H1.c3
  have a4 := H1.c4
  have b0 := H2.c0
  have b2 := H2.c2
  have b3 := H2.c3
  have b4 := H2.c4
  simp only at a0 a2 a3 a4 b0 b2 b3 b4
  replace H3 := Aside0.mk H3
  clear H1 H2 hB1
  go_wp2_with fail
  go_ret
  exact ⟨rfl, H3.out⟩

set_option maxHeartbeats 4000000 in
set_option maxRecDepth 100000 in
theorem apart_most (ak bk an bn pa pb : Int) (af bf at_ bt : ByteArray) (La Lb : Value) (v1 : Int) (v2 : Bool) (w : World) (hg : Glob w) (hs : at_.size ≤ 1000) (hv : valP at_.data.toList 1 = (v1, v2)) (c1 : v2 = true) :
    Calls Tryd.prog 38 #[.agg #[.int .i64 (3), .int .i64 pa, .string af, .string at_, .int .i64 an, La], .agg #[.int .i64 (5), .int .i64 pb, .string af, .string bt, .int .i64 bn, Lb]] w fun e w' => e = .returned (.bool (decide (bn < v1))) ∧ Below w.heap.size w w' := by
  have HG := Aside0.mk hg
  have hs1 : at_.size ≤ 281474976710656 := by omega
  have HA : Aside0 (∀ o, Box24 ((w.alloc (.cells (nodeC ⟨3, af, at_, an⟩ pa La) 24)).alloc o) w.heap.size ⟨3, af, at_, an⟩ pa La) := ⟨fun o => Box24.below (heap_alloc_new w _) (below_alloc (Below.refl _ _) o)⟩
  have HB : Aside0 (∀ o, Box24 ((w.alloc o).alloc (.cells (nodeC ⟨5, af, bt, bn⟩ pb Lb) 24)) (w.heap.size + 1) ⟨5, af, bt, bn⟩ pb Lb) := ⟨fun o => by have := heap_alloc_new (w.alloc o) (.cells (nodeC ⟨5, af, bt, bn⟩ pb Lb) 24 (0, 0)); rwa [World.size_alloc] at this⟩
  have B2 : Aside0 (Below w.heap.size w ((w.alloc (.cells (nodeC ⟨3, af, at_, an⟩ pa La) 24)).alloc (.cells (nodeC ⟨5, af, bt, bn⟩ pb Lb) 24))) := ⟨((Below.refl _ _).alloc (Nat.le_refl _) _).alloc (by simp) _⟩
  have HC : ∀ w1, Below ((w.alloc (.cells (nodeC ⟨3, af, at_, an⟩ pa La) 24)).alloc (.cells (nodeC ⟨5, af, bt, bn⟩ pb Lb) 24)).heap.size ((w.alloc (.cells (nodeC ⟨3, af, at_, an⟩ pa La) 24)).alloc (.cells (nodeC ⟨5, af, bt, bn⟩ pb Lb) 24)) w1 → Box24 w1 w.heap.size ⟨3, af, at_, an⟩ pa La ∧ Box24 w1 (w.heap.size + 1) ⟨5, af, bt, bn⟩ pb Lb ∧ Below w.heap.size w w1 :=
    fun w1 h => ⟨(HA.out _).below h, (HB.out _).below h, B2.out.trans (h.mono B2.out.size)⟩
  replace HC := Aside0.mk HC
  have HV := value_calls at_ 1 hs1 _ (HG.out.below B2.out)
  rw [hv] at HV
  replace HV := Aside0.mk HV
  unfold nodeC at HC HV
  simp only at HC HV
  clear hg HA HB B2 hv
  subst c1
  go_enter Tryd.func38, Tryd.ntmps38
  go_wp2_with fail
  refine HV.out.mono ?_
  rintro e w1 ⟨rfl, hB1⟩
  obtain ⟨H1, H2, H3⟩ := HC.out w1 hB1
  have a0 := H1.c0
  have a2 := H1.c2
  have a3 := H1.c3
  have a4 := H1.c4
  have b0 := H2.c0
  have b2 := H2.c2
  have b3 := H2.c3
  have b4 := H2.c4
  simp only at a0 a2 a3 a4 b0 b2 b3 b4
  replace H3 := Aside0.mk H3
  clear H1 H2 hB1
  go_wp2_with fail
  go_ret
  exact ⟨rfl, H3.out⟩

set_option maxHeartbeats 4000000 in
set_option maxRecDepth 100000 in
theorem apart_least_no (ak bk an bn pa pb : Int) (af bf at_ bt : ByteArray) (La Lb : Value) (v1 : Int) (v2 : Bool) (w : World) (hg : Glob w) (hs : at_.size ≤ 1000) (hv : valP at_.data.toList 1 = (v1, v2)) (c1 : v2 = false) :
    Calls Tryd.prog 38 #[.agg #[.int .i64 (3), .int .i64 pa, .string af, .string at_, .int .i64 an, La], .agg #[.int .i64 (6), .int .i64 pb, .string af, .string bt, .int .i64 bn, Lb]] w fun e w' => e = .returned (.bool true) ∧ Below w.heap.size w w' := by
  have HG := Aside0.mk hg
  have hs1 : at_.size ≤ 281474976710656 := by omega
  have HA : Aside0 (∀ o, Box24 ((w.alloc (.cells (nodeC ⟨3, af, at_, an⟩ pa La) 24)).alloc o) w.heap.size ⟨3, af, at_, an⟩ pa La) := ⟨fun o => Box24.below (heap_alloc_new w _) (below_alloc (Below.refl _ _) o)⟩
  have HB : Aside0 (∀ o, Box24 ((w.alloc o).alloc (.cells (nodeC ⟨6, af, bt, bn⟩ pb Lb) 24)) (w.heap.size + 1) ⟨6, af, bt, bn⟩ pb Lb) := ⟨fun o => by have := heap_alloc_new (w.alloc o) (.cells (nodeC ⟨6, af, bt, bn⟩ pb Lb) 24 (0, 0)); rwa [World.size_alloc] at this⟩
  have B2 : Aside0 (Below w.heap.size w ((w.alloc (.cells (nodeC ⟨3, af, at_, an⟩ pa La) 24)).alloc (.cells (nodeC ⟨6, af, bt, bn⟩ pb Lb) 24))) := ⟨((Below.refl _ _).alloc (Nat.le_refl _) _).alloc (by simp) _⟩
  have HC : ∀ w1, Below ((w.alloc (.cells (nodeC ⟨3, af, at_, an⟩ pa La) 24)).alloc (.cells (nodeC ⟨6, af, bt, bn⟩ pb Lb) 24)).heap.size ((w.alloc (.cells (nodeC ⟨3, af, at_, an⟩ pa La) 24)).alloc (.cells (nodeC ⟨6, af, bt, bn⟩ pb Lb) 24)) w1 → Box24 w1 w.heap.size ⟨3, af, at_, an⟩ pa La ∧ Box24 w1 (w.heap.size + 1) ⟨6, af, bt, bn⟩ pb Lb ∧ Below w.heap.size w w1 :=
    fun w1 h => ⟨(HA.out _).below h, (HB.out _).below h, B2.out.trans (h.mono B2.out.size)⟩
  replace HC := Aside0.mk HC
  have HV := value_calls at_ 1 hs1 _ (HG.out.below B2.out)
  rw [hv] at HV
  replace HV := Aside0.mk HV
  unfold nodeC at HC HV
  simp only at HC HV
  clear hg HA HB B2 hv
  subst c1
  go_enter Tryd.func38, Tryd.ntmps38
  go_wp2_with fail
  refine HV.out.mono ?_
  rintro e w1 ⟨rfl, hB1⟩
  obtain ⟨H1, H2, H3⟩ := HC.out w1 hB1
  have a0 := H1.c0
  have a2 := H1.c2
  have a3 := H1.c3
  have a4 := H1.c4
  have b0 := H2.c0
  have b2 := H2.c2
  have b3 := H2.c3
  have b4 := H2.c4
  simp only at a0 a2 a3 a4 b0 b2 b3 b4
  replace H3 := Aside0.mk H3
  clear H1 H2 hB1
  go_wp2_with fail
  go_ret
  exact ⟨rfl, H3.out⟩

set_option maxHeartbeats 4000000 in
set_option maxRecDepth 100000 in
theorem apart_least (ak bk an bn pa pb : Int) (af bf at_ bt : ByteArray) (La Lb : Value) (v1 : Int) (v2 : Bool) (w : World) (hg : Glob w) (hs : at_.size ≤ 1000) (hv : valP at_.data.toList 1 = (v1, v2)) (c1 : v2 = true) :
    Calls Tryd.prog 38 #[.agg #[.int .i64 (3), .int .i64 pa, .string af, .string at_, .int .i64 an, La], .agg #[.int .i64 (6), .int .i64 pb, .string af, .string bt, .int .i64 bn, Lb]] w fun e w' => e = .returned (.bool (decide (v1 < bn))) ∧ Below w.heap.size w w' := by
  have HG := Aside0.mk hg
  have hs1 : at_.size ≤ 281474976710656 := by omega
  have HA : Aside0 (∀ o, Box24 ((w.alloc (.cells (nodeC ⟨3, af, at_, an⟩ pa La) 24)).alloc o) w.heap.size ⟨3, af, at_, an⟩ pa La) := ⟨fun o => Box24.below (heap_alloc_new w _) (below_alloc (Below.refl _ _) o)⟩
  have HB : Aside0 (∀ o, Box24 ((w.alloc o).alloc (.cells (nodeC ⟨6, af, bt, bn⟩ pb Lb) 24)) (w.heap.size + 1) ⟨6, af, bt, bn⟩ pb Lb) := ⟨fun o => by have := heap_alloc_new (w.alloc o) (.cells (nodeC ⟨6, af, bt, bn⟩ pb Lb) 24 (0, 0)); rwa [World.size_alloc] at this⟩
  have B2 : Aside0 (Below w.heap.size w ((w.alloc (.cells (nodeC ⟨3, af, at_, an⟩ pa La) 24)).alloc (.cells (nodeC ⟨6, af, bt, bn⟩ pb Lb) 24))) := ⟨((Below.refl _ _).alloc (Nat.le_refl _) _).alloc (by simp) _⟩
  have HC : ∀ w1, Below ((w.alloc (.cells (nodeC ⟨3, af, at_, an⟩ pa La) 24)).alloc (.cells (nodeC ⟨6, af, bt, bn⟩ pb Lb) 24)).heap.size ((w.alloc (.cells (nodeC ⟨3, af, at_, an⟩ pa La) 24)).alloc (.cells (nodeC ⟨6, af, bt, bn⟩ pb Lb) 24)) w1 → Box24 w1 w.heap.size ⟨3, af, at_, an⟩ pa La ∧ Box24 w1 (w.heap.size + 1) ⟨6, af, bt, bn⟩ pb Lb ∧ Below w.heap.size w w1 :=
    fun w1 h => ⟨(HA.out _).below h, (HB.out _).below h, B2.out.trans (h.mono B2.out.size)⟩
  replace HC := Aside0.mk HC
  have HV := value_calls at_ 1 hs1 _ (HG.out.below B2.out)
  rw [hv] at HV
  replace HV := Aside0.mk HV
  unfold nodeC at HC HV
  simp only at HC HV
  clear hg HA HB B2 hv
  subst c1
  go_enter Tryd.func38, Tryd.ntmps38
  go_wp2_with fail
  refine HV.out.mono ?_
  rintro e w1 ⟨rfl, hB1⟩
  obtain ⟨H1, H2, H3⟩ := HC.out w1 hB1
  have a0 := H1.c0
  have a2 := H1.c2
  have a3 := H1.c3
  have a4 := H1.c4
  have b0 := H2.c0
  have b2 := H2.c2
  have b3 := H2.c3
  have b4 := H2.c4
  simp only at a0 a2 a3 a4 b0 b2 b3 b4
  replace H3 := Aside0.mk H3
  clear H1 H2 hB1
  go_wp2_with fail
  go_ret
  exact ⟨rfl, H3.out⟩

set_option maxHeartbeats 4000000 in
set_option maxRecDepth 100000 in
theorem apart_has (ak bk an bn pa pb : Int) (af bf at_ bt : ByteArray) (La Lb : Value) (v1 : Int) (v2 : Bool) (w : World) (hg : Glob w) (hs : at_.size ≤ 1000) (hv : valP at_.data.toList 1 = (v1, v2))  :
    Calls Tryd.prog 38 #[.agg #[.int .i64 (3), .int .i64 pa, .string af, .string at_, .int .i64 an, La], .agg #[.int .i64 (4), .int .i64 pb, .string af, .string bt, .int .i64 bn, Lb]] w fun e w' => e = .returned (.bool (!Lib.contains at_.data.toList bt.data.toList)) ∧ Below w.heap.size w w' := by
  have HG := Aside0.mk hg
  have hs1 : at_.size ≤ 281474976710656 := by omega
  have HA : Aside0 (∀ o, Box24 ((w.alloc (.cells (nodeC ⟨3, af, at_, an⟩ pa La) 24)).alloc o) w.heap.size ⟨3, af, at_, an⟩ pa La) := ⟨fun o => Box24.below (heap_alloc_new w _) (below_alloc (Below.refl _ _) o)⟩
  have HB : Aside0 (∀ o, Box24 ((w.alloc o).alloc (.cells (nodeC ⟨4, af, bt, bn⟩ pb Lb) 24)) (w.heap.size + 1) ⟨4, af, bt, bn⟩ pb Lb) := ⟨fun o => by have := heap_alloc_new (w.alloc o) (.cells (nodeC ⟨4, af, bt, bn⟩ pb Lb) 24 (0, 0)); rwa [World.size_alloc] at this⟩
  have B2 : Aside0 (Below w.heap.size w ((w.alloc (.cells (nodeC ⟨3, af, at_, an⟩ pa La) 24)).alloc (.cells (nodeC ⟨4, af, bt, bn⟩ pb Lb) 24))) := ⟨((Below.refl _ _).alloc (Nat.le_refl _) _).alloc (by simp) _⟩
  have HC : ∀ w1, Below ((w.alloc (.cells (nodeC ⟨3, af, at_, an⟩ pa La) 24)).alloc (.cells (nodeC ⟨4, af, bt, bn⟩ pb Lb) 24)).heap.size ((w.alloc (.cells (nodeC ⟨3, af, at_, an⟩ pa La) 24)).alloc (.cells (nodeC ⟨4, af, bt, bn⟩ pb Lb) 24)) w1 → Box24 w1 w.heap.size ⟨3, af, at_, an⟩ pa La ∧ Box24 w1 (w.heap.size + 1) ⟨4, af, bt, bn⟩ pb Lb ∧ Below w.heap.size w w1 :=
    fun w1 h => ⟨(HA.out _).below h, (HB.out _).below h, B2.out.trans (h.mono B2.out.size)⟩
  replace HC := Aside0.mk HC
  have HV := value_calls at_ 1 hs1 _ (HG.out.below B2.out)
  rw [hv] at HV
  replace HV := Aside0.mk HV
  unfold nodeC at HC HV
  simp only at HC HV
  clear hg HA HB B2 hv
  go_enter Tryd.func38, Tryd.ntmps38
  go_wp2_with fail
  refine HV.out.mono ?_
  rintro e w1 ⟨rfl, hB1⟩
  obtain ⟨H1, H2, H3⟩ := HC.out w1 hB1
  have a0 := H1.c0
  have a2 := H1.c2
  have a3 := H1.c3
  have a4 := H1.c4
  have b0 := H2.c0
  have b2 := H2.c2
  have b3 := H2.c3
  have b4 := H2.c4
  simp only at a0 a2 a3 a4 b0 b2 b3 b4
  replace H3 := Aside0.mk H3
  clear H1 H2 hB1
  go_wp2_with fail
  refine (contains_calls at_ bt (by omega) w1 (HG.out.below H3.out)).mono ?_
  rintro e w2 ⟨rfl, rfl⟩
  go_wp2_with fail
  go_ret
  exact ⟨rfl, H3.out⟩

set_option maxHeartbeats 4000000 in
set_option maxRecDepth 100000 in
theorem apart_is (ak bk an bn pa pb : Int) (af bf at_ bt : ByteArray) (La Lb : Value) (v1 : Int) (v2 : Bool) (w : World) (hg : Glob w) (hs : at_.size ≤ 1000) (hv : valP at_.data.toList 1 = (v1, v2)) (c3 : bk ≠ 3) (c4 : bk ≠ 4) (c5 : bk ≠ 5) (c6 : bk ≠ 6) :
    Calls Tryd.prog 38 #[.agg #[.int .i64 (3), .int .i64 pa, .string af, .string at_, .int .i64 an, La], .agg #[.int .i64 (bk), .int .i64 pb, .string af, .string bt, .int .i64 bn, Lb]] w fun e w' => e = .returned (.bool false) ∧ Below w.heap.size w w' := by
  have HG := Aside0.mk hg
  have hs1 : at_.size ≤ 281474976710656 := by omega
  have HA : Aside0 (∀ o, Box24 ((w.alloc (.cells (nodeC ⟨3, af, at_, an⟩ pa La) 24)).alloc o) w.heap.size ⟨3, af, at_, an⟩ pa La) := ⟨fun o => Box24.below (heap_alloc_new w _) (below_alloc (Below.refl _ _) o)⟩
  have HB : Aside0 (∀ o, Box24 ((w.alloc o).alloc (.cells (nodeC ⟨bk, af, bt, bn⟩ pb Lb) 24)) (w.heap.size + 1) ⟨bk, af, bt, bn⟩ pb Lb) := ⟨fun o => by have := heap_alloc_new (w.alloc o) (.cells (nodeC ⟨bk, af, bt, bn⟩ pb Lb) 24 (0, 0)); rwa [World.size_alloc] at this⟩
  have B2 : Aside0 (Below w.heap.size w ((w.alloc (.cells (nodeC ⟨3, af, at_, an⟩ pa La) 24)).alloc (.cells (nodeC ⟨bk, af, bt, bn⟩ pb Lb) 24))) := ⟨((Below.refl _ _).alloc (Nat.le_refl _) _).alloc (by simp) _⟩
  have HC : ∀ w1, Below ((w.alloc (.cells (nodeC ⟨3, af, at_, an⟩ pa La) 24)).alloc (.cells (nodeC ⟨bk, af, bt, bn⟩ pb Lb) 24)).heap.size ((w.alloc (.cells (nodeC ⟨3, af, at_, an⟩ pa La) 24)).alloc (.cells (nodeC ⟨bk, af, bt, bn⟩ pb Lb) 24)) w1 → Box24 w1 w.heap.size ⟨3, af, at_, an⟩ pa La ∧ Box24 w1 (w.heap.size + 1) ⟨bk, af, bt, bn⟩ pb Lb ∧ Below w.heap.size w w1 :=
    fun w1 h => ⟨(HA.out _).below h, (HB.out _).below h, B2.out.trans (h.mono B2.out.size)⟩
  replace HC := Aside0.mk HC
  have HV := value_calls at_ 1 hs1 _ (HG.out.below B2.out)
  rw [hv] at HV
  replace HV := Aside0.mk HV
  unfold nodeC at HC HV
  simp only at HC HV
  clear hg HA HB B2 hv
  have c30 : (bk == 3) = false := beq_eq_false_iff_ne.mpr c3
  have c31 : (bk != 3) = true := bne_iff_ne.mpr c3
  have c40 : (bk == 4) = false := beq_eq_false_iff_ne.mpr c4
  have c41 : (bk != 4) = true := bne_iff_ne.mpr c4
  have c50 : (bk == 5) = false := beq_eq_false_iff_ne.mpr c5
  have c51 : (bk != 5) = true := bne_iff_ne.mpr c5
  have c60 : (bk == 6) = false := beq_eq_false_iff_ne.mpr c6
  have c61 : (bk != 6) = true := bne_iff_ne.mpr c6
  clear c3 c4 c5 c6
  go_enter Tryd.func38, Tryd.ntmps38
  go_wp2_with fail
  refine HV.out.mono ?_
  rintro e w1 ⟨rfl, hB1⟩
  obtain ⟨H1, H2, H3⟩ := HC.out w1 hB1
  have a0 := H1.c0
  have a2 := H1.c2
  have a3 := H1.c3
  have a4 := H1.c4
  have b0 := H2.c0
  have b2 := H2.c2
  have b3 := H2.c3
  have b4 := H2.c4
  simp only at a0 a2 a3 a4 b0 b2 b3 b4
  replace H3 := Aside0.mk H3
  clear H1 H2 hB1
  go_wp2_with fail
  go_ret
  exact ⟨rfl, H3.out⟩

set_option maxHeartbeats 4000000 in
set_option maxRecDepth 100000 in
theorem apart_order (ak bk an bn pa pb : Int) (af bf at_ bt : ByteArray) (La Lb : Value) (v1 : Int) (v2 : Bool) (w : World) (hg : Glob w) (hs : at_.size ≤ 1000) (hv : valP at_.data.toList 1 = (v1, v2))  :
    Calls Tryd.prog 38 #[.agg #[.int .i64 (5), .int .i64 pa, .string af, .string at_, .int .i64 an, La], .agg #[.int .i64 (6), .int .i64 pb, .string af, .string bt, .int .i64 bn, Lb]] w fun e w' => e = .returned (.bool (decide (an < bn))) ∧ Below w.heap.size w w' := by
  have HG := Aside0.mk hg
  have hs1 : at_.size ≤ 281474976710656 := by omega
  have HA : Aside0 (∀ o, Box24 ((w.alloc (.cells (nodeC ⟨5, af, at_, an⟩ pa La) 24)).alloc o) w.heap.size ⟨5, af, at_, an⟩ pa La) := ⟨fun o => Box24.below (heap_alloc_new w _) (below_alloc (Below.refl _ _) o)⟩
  have HB : Aside0 (∀ o, Box24 ((w.alloc o).alloc (.cells (nodeC ⟨6, af, bt, bn⟩ pb Lb) 24)) (w.heap.size + 1) ⟨6, af, bt, bn⟩ pb Lb) := ⟨fun o => by have := heap_alloc_new (w.alloc o) (.cells (nodeC ⟨6, af, bt, bn⟩ pb Lb) 24 (0, 0)); rwa [World.size_alloc] at this⟩
  have B2 : Aside0 (Below w.heap.size w ((w.alloc (.cells (nodeC ⟨5, af, at_, an⟩ pa La) 24)).alloc (.cells (nodeC ⟨6, af, bt, bn⟩ pb Lb) 24))) := ⟨((Below.refl _ _).alloc (Nat.le_refl _) _).alloc (by simp) _⟩
  have HC : ∀ w1, Below ((w.alloc (.cells (nodeC ⟨5, af, at_, an⟩ pa La) 24)).alloc (.cells (nodeC ⟨6, af, bt, bn⟩ pb Lb) 24)).heap.size ((w.alloc (.cells (nodeC ⟨5, af, at_, an⟩ pa La) 24)).alloc (.cells (nodeC ⟨6, af, bt, bn⟩ pb Lb) 24)) w1 → Box24 w1 w.heap.size ⟨5, af, at_, an⟩ pa La ∧ Box24 w1 (w.heap.size + 1) ⟨6, af, bt, bn⟩ pb Lb ∧ Below w.heap.size w w1 :=
    fun w1 h => ⟨(HA.out _).below h, (HB.out _).below h, B2.out.trans (h.mono B2.out.size)⟩
  replace HC := Aside0.mk HC
  have HV := value_calls at_ 1 hs1 _ (HG.out.below B2.out)
  rw [hv] at HV
  replace HV := Aside0.mk HV
  unfold nodeC at HC HV
  simp only at HC HV
  clear hg HA HB B2 hv
  go_enter Tryd.func38, Tryd.ntmps38
  go_wp2_with fail
  refine HV.out.mono ?_
  rintro e w1 ⟨rfl, hB1⟩
  obtain ⟨H1, H2, H3⟩ := HC.out w1 hB1
  have a0 := H1.c0
  have a2 := H1.c2
  have a3 := H1.c3
  have a4 := H1.c4
  have b0 := H2.c0
  have b2 := H2.c2
  have b3 := H2.c3
  have b4 := H2.c4
  simp only at a0 a2 a3 a4 b0 b2 b3 b4
  replace H3 := Aside0.mk H3
  clear H1 H2 hB1
  go_wp2_with fail
  go_ret
  exact ⟨rfl, H3.out⟩

set_option maxHeartbeats 4000000 in
set_option maxRecDepth 100000 in
theorem apart_mosts (ak bk an bn pa pb : Int) (af bf at_ bt : ByteArray) (La Lb : Value) (v1 : Int) (v2 : Bool) (w : World) (hg : Glob w) (hs : at_.size ≤ 1000) (hv : valP at_.data.toList 1 = (v1, v2)) (c6 : bk ≠ 6) :
    Calls Tryd.prog 38 #[.agg #[.int .i64 (5), .int .i64 pa, .string af, .string at_, .int .i64 an, La], .agg #[.int .i64 (bk), .int .i64 pb, .string af, .string bt, .int .i64 bn, Lb]] w fun e w' => e = .returned (.bool false) ∧ Below w.heap.size w w' := by
  have HG := Aside0.mk hg
  have hs1 : at_.size ≤ 281474976710656 := by omega
  have HA : Aside0 (∀ o, Box24 ((w.alloc (.cells (nodeC ⟨5, af, at_, an⟩ pa La) 24)).alloc o) w.heap.size ⟨5, af, at_, an⟩ pa La) := ⟨fun o => Box24.below (heap_alloc_new w _) (below_alloc (Below.refl _ _) o)⟩
  have HB : Aside0 (∀ o, Box24 ((w.alloc o).alloc (.cells (nodeC ⟨bk, af, bt, bn⟩ pb Lb) 24)) (w.heap.size + 1) ⟨bk, af, bt, bn⟩ pb Lb) := ⟨fun o => by have := heap_alloc_new (w.alloc o) (.cells (nodeC ⟨bk, af, bt, bn⟩ pb Lb) 24 (0, 0)); rwa [World.size_alloc] at this⟩
  have B2 : Aside0 (Below w.heap.size w ((w.alloc (.cells (nodeC ⟨5, af, at_, an⟩ pa La) 24)).alloc (.cells (nodeC ⟨bk, af, bt, bn⟩ pb Lb) 24))) := ⟨((Below.refl _ _).alloc (Nat.le_refl _) _).alloc (by simp) _⟩
  have HC : ∀ w1, Below ((w.alloc (.cells (nodeC ⟨5, af, at_, an⟩ pa La) 24)).alloc (.cells (nodeC ⟨bk, af, bt, bn⟩ pb Lb) 24)).heap.size ((w.alloc (.cells (nodeC ⟨5, af, at_, an⟩ pa La) 24)).alloc (.cells (nodeC ⟨bk, af, bt, bn⟩ pb Lb) 24)) w1 → Box24 w1 w.heap.size ⟨5, af, at_, an⟩ pa La ∧ Box24 w1 (w.heap.size + 1) ⟨bk, af, bt, bn⟩ pb Lb ∧ Below w.heap.size w w1 :=
    fun w1 h => ⟨(HA.out _).below h, (HB.out _).below h, B2.out.trans (h.mono B2.out.size)⟩
  replace HC := Aside0.mk HC
  have HV := value_calls at_ 1 hs1 _ (HG.out.below B2.out)
  rw [hv] at HV
  replace HV := Aside0.mk HV
  unfold nodeC at HC HV
  simp only at HC HV
  clear hg HA HB B2 hv
  have c60 : (bk == 6) = false := beq_eq_false_iff_ne.mpr c6
  have c61 : (bk != 6) = true := bne_iff_ne.mpr c6
  clear c6
  go_enter Tryd.func38, Tryd.ntmps38
  go_wp2_with fail
  refine HV.out.mono ?_
  rintro e w1 ⟨rfl, hB1⟩
  obtain ⟨H1, H2, H3⟩ := HC.out w1 hB1
  have a0 := H1.c0
  have a2 := H1.c2
  have a3 := H1.c3
  have a4 := H1.c4
  have b0 := H2.c0
  have b2 := H2.c2
  have b3 := H2.c3
  have b4 := H2.c4
  simp only at a0 a2 a3 a4 b0 b2 b3 b4
  replace H3 := Aside0.mk H3
  clear H1 H2 hB1
  go_wp2_with fail
  go_ret
  exact ⟨rfl, H3.out⟩

set_option maxHeartbeats 4000000 in
set_option maxRecDepth 100000 in
theorem apart_other (ak bk an bn pa pb : Int) (af bf at_ bt : ByteArray) (La Lb : Value) (v1 : Int) (v2 : Bool) (w : World) (hg : Glob w) (hs : at_.size ≤ 1000) (hv : valP at_.data.toList 1 = (v1, v2)) (c3 : ak ≠ 3) (c5 : ak ≠ 5) :
    Calls Tryd.prog 38 #[.agg #[.int .i64 (ak), .int .i64 pa, .string af, .string at_, .int .i64 an, La], .agg #[.int .i64 (bk), .int .i64 pb, .string af, .string bt, .int .i64 bn, Lb]] w fun e w' => e = .returned (.bool false) ∧ Below w.heap.size w w' := by
  have HG := Aside0.mk hg
  have hs1 : at_.size ≤ 281474976710656 := by omega
  have HA : Aside0 (∀ o, Box24 ((w.alloc (.cells (nodeC ⟨ak, af, at_, an⟩ pa La) 24)).alloc o) w.heap.size ⟨ak, af, at_, an⟩ pa La) := ⟨fun o => Box24.below (heap_alloc_new w _) (below_alloc (Below.refl _ _) o)⟩
  have HB : Aside0 (∀ o, Box24 ((w.alloc o).alloc (.cells (nodeC ⟨bk, af, bt, bn⟩ pb Lb) 24)) (w.heap.size + 1) ⟨bk, af, bt, bn⟩ pb Lb) := ⟨fun o => by have := heap_alloc_new (w.alloc o) (.cells (nodeC ⟨bk, af, bt, bn⟩ pb Lb) 24 (0, 0)); rwa [World.size_alloc] at this⟩
  have B2 : Aside0 (Below w.heap.size w ((w.alloc (.cells (nodeC ⟨ak, af, at_, an⟩ pa La) 24)).alloc (.cells (nodeC ⟨bk, af, bt, bn⟩ pb Lb) 24))) := ⟨((Below.refl _ _).alloc (Nat.le_refl _) _).alloc (by simp) _⟩
  have HC : ∀ w1, Below ((w.alloc (.cells (nodeC ⟨ak, af, at_, an⟩ pa La) 24)).alloc (.cells (nodeC ⟨bk, af, bt, bn⟩ pb Lb) 24)).heap.size ((w.alloc (.cells (nodeC ⟨ak, af, at_, an⟩ pa La) 24)).alloc (.cells (nodeC ⟨bk, af, bt, bn⟩ pb Lb) 24)) w1 → Box24 w1 w.heap.size ⟨ak, af, at_, an⟩ pa La ∧ Box24 w1 (w.heap.size + 1) ⟨bk, af, bt, bn⟩ pb Lb ∧ Below w.heap.size w w1 :=
    fun w1 h => ⟨(HA.out _).below h, (HB.out _).below h, B2.out.trans (h.mono B2.out.size)⟩
  replace HC := Aside0.mk HC
  have HV := value_calls at_ 1 hs1 _ (HG.out.below B2.out)
  rw [hv] at HV
  replace HV := Aside0.mk HV
  unfold nodeC at HC HV
  simp only at HC HV
  clear hg HA HB B2 hv
  have c30 : (ak == 3) = false := beq_eq_false_iff_ne.mpr c3
  have c31 : (ak != 3) = true := bne_iff_ne.mpr c3
  have c50 : (ak == 5) = false := beq_eq_false_iff_ne.mpr c5
  have c51 : (ak != 5) = true := bne_iff_ne.mpr c5
  clear c3 c5
  go_enter Tryd.func38, Tryd.ntmps38
  go_wp2_with fail
  refine HV.out.mono ?_
  rintro e w1 ⟨rfl, hB1⟩
  obtain ⟨H1, H2, H3⟩ := HC.out w1 hB1
  have a0 := H1.c0
  have a2 := H1.c2
  have a3 := H1.c3
  have a4 := H1.c4
  have b0 := H2.c0
  have b2 := H2.c2
  have b3 := H2.c3
  have b4 := H2.c4
  simp only at a0 a2 a3 a4 b0 b2 b3 b4
  replace H3 := Aside0.mk H3
  clear H1 H2 hB1
  go_wp2_with fail
  go_ret
  exact ⟨rfl, H3.out⟩

open Classical in
theorem apart_calls (a b : Core) (pa pb : Int) (La Lb : Value) (w : World) (hg : Glob w) (hs : a.t.size ≤ 1000) :
    Calls Tryd.prog 38 #[nodeV a pa La, nodeV b pb Lb] w fun e w' => e = .returned (.bool (apartP a b)) ∧ Below w.heap.size w w' := by
  obtain ⟨ak, af, at_, an⟩ := a
  obtain ⟨bk, bf, bt, bn⟩ := b
  obtain ⟨v1, v2, hv⟩ : ∃ v1 v2, valP at_.data.toList 1 = (v1, v2) := ⟨_, _, rfl⟩
  simp only at hs
  unfold nodeV apartP
  simp only [hv]
  by_cases c1 : af = bf
  · subst c1
    rw [if_neg (by simp)]
    by_cases c2 : ak = 3
    · subst c2
      rw [if_pos rfl]
      by_cases d3 : bk = 3
      · subst d3
        rw [if_pos rfl]
        by_cases e1 : at_ = bt
        · subst e1
          rw [decide_eq_false (by simp)]
          exact apart_same 0 0 an bn pa pb af af at_ at_ La Lb v1 v2 w hg hs hv
        · rw [decide_eq_true e1]
          exact apart_text 0 0 an bn pa pb af af at_ bt La Lb v1 v2 w hg hs hv e1
      · rw [if_neg d3]
        by_cases d5 : bk = 5
        · subst d5
          rw [if_pos rfl]
          cases v2
          · exact apart_most_no 0 0 an bn pa pb af af at_ bt La Lb v1 false w hg hs hv rfl
          · exact apart_most 0 0 an bn pa pb af af at_ bt La Lb v1 true w hg hs hv rfl
        · rw [if_neg d5]
          by_cases d6 : bk = 6
          · subst d6
            rw [if_pos rfl]
            cases v2
            · exact apart_least_no 0 0 an bn pa pb af af at_ bt La Lb v1 false w hg hs hv rfl
            · exact apart_least 0 0 an bn pa pb af af at_ bt La Lb v1 true w hg hs hv rfl
          · rw [if_neg d6]
            by_cases d4 : bk = 4
            · subst d4
              rw [if_pos rfl]
              exact apart_has 0 0 an bn pa pb af af at_ bt La Lb v1 v2 w hg hs hv
            · rw [if_neg d4]
              exact apart_is 0 bk an bn pa pb af af at_ bt La Lb v1 v2 w hg hs hv d3 d4 d5 d6
    · rw [if_neg c2]
      by_cases c5 : ak = 5
      · subst c5
        rw [if_pos rfl]
        by_cases d6 : bk = 6
        · subst d6
          rw [if_pos rfl]
          exact apart_order 0 0 an bn pa pb af af at_ bt La Lb v1 v2 w hg hs hv
        · rw [if_neg d6]
          exact apart_mosts 0 bk an bn pa pb af af at_ bt La Lb v1 v2 w hg hs hv d6
      · rw [if_neg c5]
        exact apart_other ak bk an bn pa pb af af at_ bt La Lb v1 v2 w hg hs hv c2 c5
  · rw [if_pos c1]
    exact apart_field ak bk an bn pa pb af bf at_ bt La Lb v1 v2 w hg hs hv c1
end Go.Proofs.YtlgcceojnbobeaaDoor.A

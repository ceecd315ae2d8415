/- sense.Fields, sense.has and sense.Type walked. -/
import Derived.Test.YtlgcceojnbobeaaDoorNumber
import Derived.Test.YtlgcceojnbobeaaDoorAx8
import Derived.Shelf.Strings.SplitShaped
import Derived.Shelf.Slices.In.Reads
namespace Go.Proofs.YtlgcceojnbobeaaDoor.A
open Go.RowKit Go.Shelf Go.Proofs.YtlgcceojnbobeaaDoorW.PrintWords Go.Proofs.YtlgcceojnbobeaaDoorW.PrintLast Go.Proofs.YtlgcceojnbobeaaDoorW.PrintMore
set_option linter.unusedVariables false
set_option linter.unusedSimpArgs false

def fldT0 : ByteArray := (⟨#[115, 101, 108, 108, 101, 114, 32, 98, 117, 121, 101, 114, 32, 99, 117, 114, 114, 101, 110, 99, 121, 32, 115, 117, 109, 32, 102, 114, 111, 109, 32, 116, 111, 32, 98, 111, 120, 101, 115, 32, 116, 101, 114, 109]⟩ : ByteArray)
def fldT1 : ByteArray := (⟨#[115, 101, 108, 108, 101, 114, 32, 102, 114, 111, 109, 32, 116, 111, 32, 98, 111, 120, 101, 115, 32, 109, 97, 114, 107, 115, 32, 99, 111, 110, 116, 101, 110, 116]⟩ : ByteArray)
def fldT2 : ByteArray := (⟨#[99, 97, 114, 114, 105, 101, 114, 32, 115, 104, 105, 112, 112, 101, 114, 32, 102, 114, 111, 109, 32, 116, 111, 32, 98, 111, 120, 101, 115, 32, 109, 97, 114, 107, 115, 32, 105, 115, 115, 117, 101, 100, 32, 99, 108, 101, 97, 110, 32, 112, 97, 114, 101, 110, 116, 115]⟩ : ByteArray)
def fldT3 : ByteArray := (⟨#[115, 101, 108, 108, 101, 114, 32, 102, 114, 111, 109, 32, 116, 111, 32, 99, 117, 114, 114, 101, 110, 99, 121, 32, 115, 117, 109]⟩ : ByteArray)
def fldT4 : ByteArray := (⟨#[115, 101, 108, 108, 101, 114, 32, 99, 111, 117, 110, 116, 114, 121, 32, 98, 111, 120, 101, 115]⟩ : ByteArray)
def fldT5 : ByteArray := (⟨#[100, 114, 97, 119, 101, 114, 32, 100, 114, 97, 119, 101, 101, 32, 112, 97, 121, 101, 101, 32, 99, 117, 114, 114, 101, 110, 99, 121, 32, 115, 117, 109]⟩ : ByteArray)
def fldT (k : Int) : ByteArray := if k = 0 then fldT0 else if k = 1 then fldT1 else if k = 2 then fldT2 else if k = 3 then fldT3 else if k = 4 then fldT4 else if k = 5 then fldT5 else ⟨#[]⟩
/-- The fields of a kind. -/
def FP (k : Int) : List ByteArray := (Lib.fields (fldT k).data.toList).map tx
/-- strings.Fields at this dump. -/
theorem words_calls (s : ByteArray) (hs : s.size < 4294967281) (ha : ∀ b ∈ s.data.toList, b.toNat < 128) (w : World) (hg : Glob w) : Calls Tryd.prog 29 #[.string s] w fun e w' => ∃ b c, e = .returned (.slice (some ⟨b, 0, none⟩) ((Lib.fields s.data.toList).map tx).length c) ∧ ((Lib.fields s.data.toList).map tx).length ≤ c ∧ w'.heap[b]? = some (.cells (((Lib.fields s.data.toList).map tx).map Value.string).toArray 9 (0, 0)) ∧ Below w.heap.size w w' := by
  refine (Any.strings_Fields_laid Tryd.laysM157 s w hs (fun j b h => ha b (List.mem_of_getElem? h)) hg.spc).mono ?_
  rintro e w' ⟨rfl, rfl⟩
  refine ⟨w.heap.size, _, by rw [List.length_map], by rw [List.length_map]; exact Nat.le_refl _, ?_, (Below.refl _ _).alloc (Nat.le_refl _) _⟩
  rw [List.map_map]
  exact heap_alloc_new w _
set_option maxHeartbeats 4000000 in
set_option maxRecDepth 100000 in
theorem fields_calls0 (w : World) (hg : Glob w) : Calls Tryd.prog 13 #[.int .i64 0] w fun e w' => ∃ b c, e = .returned (.slice (some ⟨b, 0, none⟩) (FP 0).length c) ∧ (FP 0).length ≤ c ∧ w'.heap[b]? = some (.cells ((FP 0).map Value.string).toArray 9 (0, 0)) ∧ Below w.heap.size w w' := by
  have HQ := Aside0.mk (words_calls fldT0 (by decide) (by decide) w hg)
  rw [show (Lib.fields fldT0.data.toList).map tx = FP 0 from rfl] at HQ
  unfold fldT0 at HQ
  clear hg
  go_enter Tryd.func13, Tryd.ntmps13
  go_wp2_with fail
  refine HQ.out.mono ?_
  rintro e w' ⟨b, c, rfl, h1, h2, h3⟩
  replace h2 := Aside0.mk h2
  replace h3 := Aside0.mk h3
  clear HQ
  go_wp2_with fail
  go_ret
  exact ⟨b, c, rfl, h1, h2.out, h3.out⟩
set_option maxHeartbeats 4000000 in
set_option maxRecDepth 100000 in
theorem fields_calls1 (w : World) (hg : Glob w) : Calls Tryd.prog 13 #[.int .i64 1] w fun e w' => ∃ b c, e = .returned (.slice (some ⟨b, 0, none⟩) (FP 1).length c) ∧ (FP 1).length ≤ c ∧ w'.heap[b]? = some (.cells ((FP 1).map Value.string).toArray 9 (0, 0)) ∧ Below w.heap.size w w' := by
  have HQ := Aside0.mk (words_calls fldT1 (by decide) (by decide) w hg)
  rw [show (Lib.fields fldT1.data.toList).map tx = FP 1 from rfl] at HQ
  unfold fldT1 at HQ
  clear hg
  go_enter Tryd.func13, Tryd.ntmps13
  go_wp2_with fail
  refine HQ.out.mono ?_
  rintro e w' ⟨b, c, rfl, h1, h2, h3⟩
  replace h2 := Aside0.mk h2
  replace h3 := Aside0.mk h3
  clear HQ
  go_wp2_with fail
  go_ret
  exact ⟨b, c, rfl, h1, h2.out, h3.out⟩
set_option maxHeartbeats 4000000 in
set_option maxRecDepth 100000 in
theorem fields_calls2 (w : World) (hg : Glob w) : Calls Tryd.prog 13 #[.int .i64 2] w fun e w' => ∃ b c, e = .returned (.slice (some ⟨b, 0, none⟩) (FP 2).length c) ∧ (FP 2).length ≤ c ∧ w'.heap[b]? = some (.cells ((FP 2).map Value.string).toArray 9 (0, 0)) ∧ Below w.heap.size w w' := by
  have HQ := Aside0.mk (words_calls fldT2 (by decide) (by decide) w hg)
  rw [show (Lib.fields fldT2.data.toList).map tx = FP 2 from rfl] at HQ
  unfold fldT2 at HQ
  clear hg
  go_enter Tryd.func13, Tryd.ntmps13
  go_wp2_with fail
  refine HQ.out.mono ?_
  rintro e w' ⟨b, c, rfl, h1, h2, h3⟩
  replace h2 := Aside0.mk h2
  replace h3 := Aside0.mk h3
  clear HQ
  go_wp2_with fail
  go_ret
  exact ⟨b, c, rfl, h1, h2.out, h3.out⟩
set_option maxHeartbeats 4000000 in
set_option maxRecDepth 100000 in
theorem fields_calls3 (w : World) (hg : Glob w) : Calls Tryd.prog 13 #[.int .i64 3] w fun e w' => ∃ b c, e = .returned (.slice (some ⟨b, 0, none⟩) (FP 3).length c) ∧ (FP 3).length ≤ c ∧ w'.heap[b]? = some (.cells ((FP 3).map Value.string).toArray 9 (0, 0)) ∧ Below w.heap.size w w' := by
  have HQ := Aside0.mk (words_calls fldT3 (by decide) (by decide) w hg)
  rw [show (Lib.fields fldT3.data.toList).map tx = FP 3 from rfl] at HQ
  unfold fldT3 at HQ
  clear hg
  go_enter Tryd.func13, Tryd.ntmps13
  go_wp2_with fail
  refine HQ.out.mono ?_
  rintro e w' ⟨b, c, rfl, h1, h2, h3⟩
  replace h2 := Aside0.mk h2
  replace h3 := Aside0.mk h3
  clear HQ
  go_wp2_with fail
  go_ret
  exact ⟨b, c, rfl, h1, h2.out, h3.out⟩
set_option maxHeartbeats 4000000 in
set_option maxRecDepth 100000 in
theorem fields_calls4 (w : World) (hg : Glob w) : Calls Tryd.prog 13 #[.int .i64 4] w fun e w' => ∃ b c, e = .returned (.slice (some ⟨b, 0, none⟩) (FP 4).length c) ∧ (FP 4).length ≤ c ∧ w'.heap[b]? = some (.cells ((FP 4).map Value.string).toArray 9 (0, 0)) ∧ Below w.heap.size w w' := by
  have HQ := Aside0.mk (words_calls fldT4 (by decide) (by decide) w hg)
  rw [show (Lib.fields fldT4.data.toList).map tx = FP 4 from rfl] at HQ
  unfold fldT4 at HQ
  clear hg
  go_enter Tryd.func13, Tryd.ntmps13
  go_wp2_with fail
  refine HQ.out.mono ?_
  rintro e w' ⟨b, c, rfl, h1, h2, h3⟩
  replace h2 := Aside0.mk h2
  replace h3 := Aside0.mk h3
  clear HQ
  go_wp2_with fail
  go_ret
  exact ⟨b, c, rfl, h1, h2.out, h3.out⟩
set_option maxHeartbeats 4000000 in
set_option maxRecDepth 100000 in
theorem fields_calls5 (w : World) (hg : Glob w) : Calls Tryd.prog 13 #[.int .i64 5] w fun e w' => ∃ b c, e = .returned (.slice (some ⟨b, 0, none⟩) (FP 5).length c) ∧ (FP 5).length ≤ c ∧ w'.heap[b]? = some (.cells ((FP 5).map Value.string).toArray 9 (0, 0)) ∧ Below w.heap.size w w' := by
  have HQ := Aside0.mk (words_calls fldT5 (by decide) (by decide) w hg)
  rw [show (Lib.fields fldT5.data.toList).map tx = FP 5 from rfl] at HQ
  unfold fldT5 at HQ
  clear hg
  go_enter Tryd.func13, Tryd.ntmps13
  go_wp2_with fail
  refine HQ.out.mono ?_
  rintro e w' ⟨b, c, rfl, h1, h2, h3⟩
  replace h2 := Aside0.mk h2
  replace h3 := Aside0.mk h3
  clear HQ
  go_wp2_with fail
  go_ret
  exact ⟨b, c, rfl, h1, h2.out, h3.out⟩
def Kind6 (k : Int) : Prop := k = 0 ∨ k = 1 ∨ k = 2 ∨ k = 3 ∨ k = 4 ∨ k = 5
theorem fields_calls (k : Int) (hk : Kind6 k) (w : World) (hg : Glob w) : Calls Tryd.prog 13 #[.int .i64 k] w fun e w' => ∃ b c, e = .returned (.slice (some ⟨b, 0, none⟩) (FP k).length c) ∧ (FP k).length ≤ c ∧ w'.heap[b]? = some (.cells ((FP k).map Value.string).toArray 9 (0, 0)) ∧ Below w.heap.size w w' := by
  rcases hk with rfl | rfl | rfl | rfl | rfl | rfl
  · exact fields_calls0 w hg
  · exact fields_calls1 w hg
  · exact fields_calls2 w hg
  · exact fields_calls3 w hg
  · exact fields_calls4 w hg
  · exact fields_calls5 w hg
end Go.Proofs.YtlgcceojnbobeaaDoor.A

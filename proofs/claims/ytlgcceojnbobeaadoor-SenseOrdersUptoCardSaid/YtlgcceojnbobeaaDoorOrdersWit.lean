/-
  The orders of any tree of at most 1048576 values and letters in all: SenseOrders, its card over the second form.
-/
import Derived.Test.YtlgcceojnbobeaaDoorCards
import Derived.Test.YtlgcceojnbobeaaDoorTie
import Derived.Test.YtlgcceojnbobeaaDoorTree
import Derived.Test.YtlgcceojnbobeaaDoorOrdersWalk
import Derived.WalkKit
import Derived.ProofKit
import Derived.OpenShut
import Derived.ChangeOld
import Derived.Below
import Derived.Deep.DeepHandedRow
import Derived.Deep.DeepWitnessRowRef
import Derived.Lib.LaidTab
import Derived.LaidMore
import Derived.MakeChecks
namespace Go.Proofs.YtlgcceojnbobeaaDoor.senseOrders
open Go.ChangeShapes Go.WideShapes Go.ChangeAt Go.RowKit ScOpenF Go.Proofs.YtlgcceojnbobeaaDoor.A Go.Proofs.YtlgcceojnbobeaaDoorW.PrintWords
set_option linter.unusedVariables false
theorem own_ : ownKnob Tryd.prog.godebug = none := by kernel_rfl
theorem laidOut_ : laidOutB Tryd.prog = true := by kernel_rfl
def arg0 : Value := .agg #[.int .i64 0, .int .i64 0, .string ⟨#[]⟩, .string ⟨#[]⟩, .int .i64 0, .slice none 0 0]
theorem laid_met (os : Os) : laidMet Tryd.prog Rows.senseOrdersUptoRow.laid ((World.doorLaid Tryd.prog 4000 os).forCall (fun _ _ => 0) ⟨#[], #[arg0], []⟩).memory :=
  laidMet_of_run' 8 (by kernel_rfl) (by kernel_rfl)
theorem reads (os : Os) {H : Type} (enc : TypeId × Value → H) : ∃ places, DataW.whole enc Tryd.prog ((World.doorLaid Tryd.prog 4000 os).forCall (fun _ _ => 0) ⟨#[], #[arg0], []⟩).memory Tryd.f3.params.toList Rows.senseOrdersSpec.vars false #[arg0].toList 8 = some ([.agg [.lit (.int .i64 0), .lit (.int .i64 0), .lit (.string []), .lit (.string []), .lit (.int .i64 0), .nil]], [], places) :=
  ⟨[], by kernel_rfl⟩
theorem wit (os : Os) {H : Type} (enc : TypeId × Value → H) : ∃ (w : World) (tape : Tape) (i : Input), w.os = os ∧ (w.forCall tape i).Shaped Tryd.checked.prog ∧ i.vars = [] ∧ Input.okWide Tryd.checked.prog (w.forCall tape i) .any w.heap.size 3 i ∧
      (Rows.OpenSpec.upto Rows.senseOrdersSpec).preRow enc Tryd.checked.prog Tryd.f3 Rows.senseOrdersUptoRow.domain false Rows.senseOrdersUptoRow.laid (w.forCall tape i).memory i.args ∧ ({ modest := false } : Assume).holds Tryd.checked.prog (lone (Frame.enter Tryd.checked.prog 3 i.args .normal) [] (w.forCall tape i)) := by
  obtain ⟨places, hx⟩ := reads os enc
  exact witness_row_atRef (enc := enc) (C := Tryd.checked) false (World.doorLaid Tryd.prog 4000 os) #[arg0] rfl (by kernel_rfl) (by kernel_rfl) (by kernel_rfl)
      (OpenSpec.preRow_of_cond 8 hx (by kernel_rfl) (fun k hk => by cases hk; kernel_rfl) (by kernel_rfl) (laid_met os))
end Go.Proofs.YtlgcceojnbobeaaDoor.senseOrders

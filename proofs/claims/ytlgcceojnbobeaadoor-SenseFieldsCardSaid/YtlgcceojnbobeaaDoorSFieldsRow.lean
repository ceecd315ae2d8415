/-
  A kind's fields, a kind by its name, a field's type and its value are the document's, at every number and every text: SenseFields, its card.
-/
import Derived.Test.YtlgcceojnbobeaaDoorCards
import Derived.Test.YtlgcceojnbobeaaDoorTie
import Derived.Test.YtlgcceojnbobeaaDoorSFieldsWalk
import Derived.WalkKit
import Derived.ProofKit
import Derived.OpenShut
import Derived.ChangeOld
import Derived.ChangeMaps
import Derived.Below
import Derived.Deep.DeepHandedRow
import Derived.Deep.DeepWitnessRowRef
import Derived.Lib.LaidTab
import Derived.LaidMore
import Derived.MakeChecks
namespace Go.Proofs.YtlgcceojnbobeaaDoor.senseFields
open Go.ChangeShapes Go.WideShapes Go.ChangeAt Go.RowKit Go.Proofs.YtlgcceojnbobeaaDoor.A Go.Proofs.YtlgcceojnbobeaaDoorW.PrintWords
open Go.ChangeMaps (open_string shut_string)
set_option linter.unusedVariables false
theorem own_ : ownKnob Tryd.prog.godebug = none := by kernel_rfl
theorem laidOut_ : laidOutB Tryd.prog = true := by kernel_rfl
theorem laid_met (os : Os) : laidMet Tryd.prog Rows.senseFieldsRow.laid ((World.doorLaid Tryd.prog 4000 os).forCall (fun _ _ => 0) ⟨#[], #[.int .i64 0, .string ⟨#[]⟩], []⟩).memory :=
  laidMet_of_run' 8 (by kernel_rfl) (by kernel_rfl)
theorem reads (os : Os) {H : Type} (enc : TypeId × Value → H) : ∃ places, DataW.whole enc Tryd.prog ((World.doorLaid Tryd.prog 4000 os).forCall (fun _ _ => 0) ⟨#[], #[.int .i64 0, .string ⟨#[]⟩], []⟩).memory Tryd.f4.params.toList Rows.senseFieldsSpec.vars false #[.int .i64 0, .string ⟨#[]⟩].toList 8 = some ([.lit (.int .i64 0), .lit (.string [])], [], places) :=
  ⟨[], by kernel_rfl⟩
theorem wit (os : Os) {H : Type} (enc : TypeId × Value → H) : ∃ (w : World) (tape : Tape) (i : Input), w.os = os ∧ (w.forCall tape i).Shaped Tryd.checked.prog ∧ i.vars = [] ∧ Input.okWide Tryd.checked.prog (w.forCall tape i) .any w.heap.size 4 i ∧
      (OpenSpec.ofChange Rows.senseFieldsSpec).preRow enc Tryd.checked.prog Tryd.f4 Rows.senseFieldsRow.domain false Rows.senseFieldsRow.laid (w.forCall tape i).memory i.args ∧ ({ modest := false } : Assume).holds Tryd.checked.prog (lone (Frame.enter Tryd.checked.prog 4 i.args .normal) [] (w.forCall tape i)) := by
  obtain ⟨places, hx⟩ := reads os enc
  exact witness_row_atRef (enc := enc) (C := Tryd.checked) false (World.doorLaid Tryd.prog 4000 os) #[.int .i64 0, .string ⟨#[]⟩] rfl (by kernel_rfl) (by kernel_rfl) (by kernel_rfl)
      (OpenSpec.preRow_of_cond 8 hx (by kernel_rfl) (fun k hk => by cases hk) (by kernel_rfl) (laid_met os))
theorem gPow : Tryd.prog.globalNamed "internal/strconv.uint64pow10" = some 4 := by kernel_rfl
theorem gSpc : Tryd.prog.globalNamed "strings.asciiSpace" = some 0 := by kernel_rfl
theorem gSyn : Tryd.prog.globalNamed "strconv.ErrSyntax" = some 2 := by kernel_rfl
theorem gRng : Tryd.prog.globalNamed "strconv.ErrRange" = some 3 := by kernel_rfl
theorem tPow : (Tryd.prog.globals[4]?).map (·.type) = some 109 := by kernel_rfl
theorem tSpc : (Tryd.prog.globals[0]?).map (·.type) = some 61 := by kernel_rfl
theorem tSyn : (Tryd.prog.globals[2]?).map (·.type) = some 56 := by kernel_rfl
theorem tRng : (Tryd.prog.globals[3]?).map (·.type) = some 56 := by kernel_rfl
theorem c109 : Tryd.prog.cellsOf 109 = 20 := by kernel_rfl
theorem c61 : Tryd.prog.cellsOf 61 = 256 := by kernel_rfl
theorem c77 : Tryd.prog.cellsOf 77 = 1 := by kernel_rfl
theorem c5 : Tryd.prog.cellsOf 5 = 1 := by kernel_rfl
set_option maxRecDepth 100000 in
theorem iface_of {H : Type} {enc : TypeId × Value → H} {W : World} {base : Nat} {sp : Nat → Bool} {held : Bool} {fuel : Nat} {cs : List Value} {nm : String} {d : DataW H} {p : List MemPlace} (h : DataW.trod enc Tryd.prog W base sp held fuel 56 cs = some (.iface nm d, p)) : ∃ u v, cs = [.iface u v] := by
  cases fuel with
  | zero => simp [DataW.trod] at h
  | succ fuel =>
    unfold DataW.trod at h
    rw [Tryd.underlying56] at h
    split at h <;> simp_all
set_option maxRecDepth 100000 in
theorem glob {W : World} (h : laidMetH Tryd.prog Rows.senseFieldsRow.laid W) (hS : W.ShapedOpen Tryd.prog) (hb : 9 ≤ W.heap.size) : Glob W := by
  rw [MakeChecks.laidMetH_plain _ _ _ (by kernel_rfl)] at h
  obtain ⟨ps, ⟨g0, t0, cs0, f0, p0, q0, hg0, ht0, hv0, hd0, ⟨g1, t1, cs1, f1, p1, q1, hg1, ht1, hv1, hd1, ⟨g2, t2, cs2, f2, p2, q2, hg2, ht2, hv2, hd2, ⟨g3, t3, cs3, f3, p3, q3, hg3, ht3, hv3, hd3, ⟨g4, t4, cs4, f4, p4, q4, hg4, ht4, hv4, hd4, ⟨g5, t5, cs5, f5, p5, q5, hg5, ht5, hv5, hd5, ⟨g6, t6, cs6, f6, p6, q6, hg6, ht6, hv6, hd6, _, _⟩, _⟩, _⟩, _⟩, _⟩, _⟩, _⟩, _⟩ := h
  obtain rfl := Option.some.inj (gPow.symm.trans hg2)
  obtain rfl := Option.some.inj (tPow.symm.trans ht2)
  obtain rfl := Option.some.inj (gRng.symm.trans hg3)
  obtain rfl := Option.some.inj (tRng.symm.trans ht3)
  obtain rfl := Option.some.inj (gSyn.symm.trans hg4)
  obtain rfl := Option.some.inj (tSyn.symm.trans ht4)
  obtain rfl := Option.some.inj (gSpc.symm.trans hg6)
  obtain rfl := Option.some.inj (tSpc.symm.trans ht6)
  refine ⟨?_, ?_, ?_, ?_, Tryd.laysM144.s1_3 W hS, hb⟩
  · obtain ⟨u, v, e⟩ := iface_of (show DataW.trod _ _ _ _ _ _ _ 56 _ = some (.iface _ _, _) from hd4)
    exact ⟨u, v, by rw [hv4, Array.eq_one_of_toList e]⟩
  · obtain ⟨u, v, e⟩ := iface_of (show DataW.trod _ _ _ _ _ _ _ 56 _ = some (.iface _ _, _) from hd3)
    exact ⟨u, v, by rw [hv3, Array.eq_one_of_toList e]⟩
  · unfold Lib.TabIs
    rw [hv2, ← Lib.cells_of_tab (zs := Lib.pow10Tab) (k := .u64) Tryd.underlying109 Tryd.underlying77 c77 c109 (show DataW.trod _ _ _ _ _ _ _ _ _ = some (Lib.tabData .u64 Lib.pow10Tab, _) from hd2)]
  · unfold Lib.TabIs
    rw [hv6, ← Lib.cells_of_tab (zs := Lib.asciiSpaceTab) (k := .u8) Tryd.underlying61 Tryd.underlying5 c5 c61 (show DataW.trod _ _ _ _ _ _ _ _ _ = some (Lib.tabData .u8 Lib.asciiSpaceTab, _) from hd6)]
theorem big_of {W : World} (h : W.ShapedOpen Tryd.prog) : 9 ≤ W.heap.size := by
  obtain ⟨cs, h1, _⟩ := h.1 8 #[.pointer none] 74 (of_decide_eq_true (by kernel_rfl)) (by kernel_rfl)
  exact (Array.getElem?_eq_some_iff.1 h1).1
set_option maxRecDepth 100000 in
theorem lifted (os : Os) (started : os.Started) (H : Type) (enc : TypeId × Value → H) (F : Stop.Interp) :
    ReturnsInHanded {} Tryd.checked os 4 .any ((OpenSpec.ofChange Rows.senseFieldsSpec).preRow enc Tryd.prog Tryd.f4 Rows.senseFieldsRow.domain false Rows.senseFieldsRow.laid) (((OpenSpec.ofChange Rows.senseFieldsSpec).at F).post enc Tryd.prog Tryd.f4 false true false false) := by
  obtain ⟨places, hx⟩ := reads os enc
  refine returnsInHanded_of_row (C := Tryd.checked) (s := OpenSpec.ofChange Rows.senseFieldsSpec) own_ started (by kernel_rfl) Tryd.func4
    (wit os enc) ?_
  intro W base args ds gs before hval0 hW x1 hcond x2 hL x3 x4
  have hval : ∀ (j : Nat) t v, Tryd.f4.params[j]? = some t → args[j]? = some v → Value.okWide Tryd.prog W .any base t v := hval0
  have hW' := hW
  obtain ⟨p, q, hA0, hV, rfl, hfz, hnd⟩ := hW
  have hA : DataW.TrodAll enc Tryd.prog W 0 (fun _ => true) true Tryd.f4.params.toList args.toList ds p := hA0
  rw [Tryd.params4] at hA hval
  obtain ⟨v0, vs0, d0, ds0, p0, q0, hargs, rfl, rfl, h0, r0⟩ := trodAll_cons hA
  obtain ⟨v1, vs1, d1, ds1, p1, q1, rfl, rfl, rfl, h1, r1⟩ := trodAll_cons r0
  obtain ⟨rfl, rfl, rfl⟩ := trodAll_nil r1
  obtain rfl : args = #[v0, v1] := by cases args; simp_all
  obtain ⟨rfl, rfl⟩ := trodVars_none hV
  obtain ⟨n, rfl, rfl, rfl, hn⟩ := open_int Tryd.underlying3 (hval 0 3 v0 rfl rfl) h0
  obtain ⟨s, rfl, rfl, rfl, hs⟩ := open_string Tryd.underlying9 (hval 1 9 v1 rfl rfl) h1
  clear hA0 hval0
  have hG : Glob W := glob hL x3 (big_of x3)
  refine (sfields_walk n s (by unfold maxLen at hs; omega) W hG).mono fun e W' ⟨he, bel⟩ => ?_
  subst he
  exact ⟨_, rfl, _, _, _, [], _, [], hW', trodAll_mk1 (shut_bool Tryd.underlying4 _), (trodAll_cons_mk (shut_int Tryd.underlying3 hn) (trodAll_cons_mk (shut_string Tryd.underlying9 hs) trodAll_mk0)), rfl, bel.frame _, fun h => by cases h⟩

theorem said : Rows.SenseFieldsSaid :=
  OpenClaim.holds_of_cond 4 Tryd.f4 rfl rfl rfl rfl rfl rfl rfl ⟨rfl, rfl, rfl, rfl, rfl⟩ rfl rfl rfl rfl rfl (by kernel_rfl) Tryd.func4 (by kernel_rfl)
    (of_decide_eq_true (by kernel_rfl)) (by unfold Func.isWrapper; first | (rw [if_pos (by decide +kernel)]; kernel_rfl) | (rw [if_neg (by decide +kernel)]; exact ⟨rfl, rfl⟩))
    (fun os started H enc _ F => by rw [OpenClaim.pre_eq_preRow]; exact lifted os started H enc F)

theorem plain (f : FuncId) (fn : Func) (hf : Tryd.pinned.checked.prog.funcNamed "supercargo/supercargolaw29.SenseFields" = some f) (hfn : Tryd.pinned.checked.prog.funcs[f]? = some fn) :
    true = Tryd.pinned.checked.prog.looks [] ∧ ∀ (j : Nat) t, fn.params[j]? = some t → Tryd.pinned.checked.prog.wantsStandIn t = false := by
  obtain rfl : f = 4 := Option.some.inj ((show Tryd.prog.funcNamed "supercargo/supercargolaw29.SenseFields" = some 4 by kernel_rfl).symm.trans hf) |>.symm
  obtain rfl : fn = Tryd.f4 := (Option.some.inj (Tryd.func4.symm.trans hfn)).symm
  refine ⟨by kernel_rfl, fun j t ht => ?_⟩
  rw [Tryd.params4] at ht
  have ht2 : t = 3 ∨ t = 9 := by simpa using Array.mem_of_getElem? ht
  rcases ht2 with rfl | rfl
  · exact (show Tryd.prog.wantsStandIn 3 = false by kernel_rfl)
  · exact (show Tryd.prog.wantsStandIn 9 = false by kernel_rfl)
end Go.Proofs.YtlgcceojnbobeaaDoor.senseFields
namespace Go.Proofs.YtlgcceojnbobeaaDoor
open senseFields
/-- The card. -/
theorem senseFields_card : Rows.SenseFieldsCardSaid :=
  Claim7.holds_tied_plain_at .later [] _ _ _ _ said (fun _ h => by cases h) (by kernel_rfl) (fun _ h => by cases h) senseFields_row_tie rfl ⟨rfl, rfl⟩ (by kernel_rfl) rfl plain (by kernel_rfl)
#print axioms senseFields_card
end Go.Proofs.YtlgcceojnbobeaaDoor

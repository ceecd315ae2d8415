/-
  A spoiled field reads as it was set, and the rest as it was, at every paper: PaperSpoils, its card.
-/
import Derived.Test.YtglgajammfcmcaaDoorCards
import Derived.Test.YtglgajammfcmcaaDoorTie
import Derived.Test.YtglgajammfcmcaaDoorOpen
import Derived.Test.YtglgajammfcmcaaDoorSpoilsWalk
import Derived.WalkKit
import Derived.ProofKit
import Derived.OpenShut
import Derived.ChangeOld
import Derived.ChangeMaps
import Derived.Below
import Derived.Deep.DeepHandedRow
import Derived.Deep.DeepWitnessRowRef
import Derived.Lib.LaidTab
import Derived.LaidMore
import Derived.MakeChecks
namespace Go.Proofs.YtglgajammfcmcaaDoor.paperSpoils
open Go.ChangeShapes Go.WideShapes Go.ChangeAt Go.RowKit ScOpen Go.Proofs.YtglgajammfcmcaaDoor.A Go.Proofs.YtglgajammfcmcaaDoorW.PrintWords
open Go.ChangeMaps (open_string shut_string)
set_option linter.unusedVariables false
theorem own_ : ownKnob Tryd.prog.godebug = none := by kernel_rfl
theorem laidOut_ : laidOutB Tryd.prog = true := by kernel_rfl
theorem laid_met (os : Os) : laidMet Tryd.prog Rows.paperSpoilsRow.laid ((World.doorLaid Tryd.prog 4000 os).forCall (fun _ _ => 0) ⟨#[], #[.agg #[.int .i64 0, .string ⟨#[]⟩, .string ⟨#[]⟩, .slice none 0 0], .string ⟨#[]⟩, .string ⟨#[]⟩, .string ⟨#[]⟩], []⟩).memory :=
  laidMet_of_run' 8 (by kernel_rfl) (by kernel_rfl)
theorem reads (os : Os) {H : Type} (enc : TypeId × Value → H) : ∃ places, DataW.whole enc Tryd.prog ((World.doorLaid Tryd.prog 4000 os).forCall (fun _ _ => 0) ⟨#[], #[.agg #[.int .i64 0, .string ⟨#[]⟩, .string ⟨#[]⟩, .slice none 0 0], .string ⟨#[]⟩, .string ⟨#[]⟩, .string ⟨#[]⟩], []⟩).memory Tryd.f3.params.toList Rows.paperSpoilsSpec.vars false #[.agg #[.int .i64 0, .string ⟨#[]⟩, .string ⟨#[]⟩, .slice none 0 0], .string ⟨#[]⟩, .string ⟨#[]⟩, .string ⟨#[]⟩].toList 8 = some ([.agg [.lit (.int .i64 0), .lit (.string []), .lit (.string []), .nil], .lit (.string []), .lit (.string []), .lit (.string [])], [], places) :=
  ⟨[], by kernel_rfl⟩
theorem wit (os : Os) {H : Type} (enc : TypeId × Value → H) : ∃ (w : World) (tape : Tape) (i : Input), w.os = os ∧ (w.forCall tape i).Shaped Tryd.checked.prog ∧ i.vars = [] ∧ Input.okWide Tryd.checked.prog (w.forCall tape i) .any w.heap.size 3 i ∧
      (OpenSpec.ofChange Rows.paperSpoilsSpec).preRow enc Tryd.checked.prog Tryd.f3 Rows.paperSpoilsRow.domain false Rows.paperSpoilsRow.laid (w.forCall tape i).memory i.args ∧ ({ modest := false } : Assume).holds Tryd.checked.prog (lone (Frame.enter Tryd.checked.prog 3 i.args .normal) [] (w.forCall tape i)) := by
  obtain ⟨places, hx⟩ := reads os enc
  exact witness_row_atRef (enc := enc) (C := Tryd.checked) false (World.doorLaid Tryd.prog 4000 os) #[.agg #[.int .i64 0, .string ⟨#[]⟩, .string ⟨#[]⟩, .slice none 0 0], .string ⟨#[]⟩, .string ⟨#[]⟩, .string ⟨#[]⟩] rfl (by kernel_rfl) (by kernel_rfl) (by kernel_rfl)
      (OpenSpec.preRow_of_cond 8 hx (by kernel_rfl) (fun k hk => by cases hk) (by kernel_rfl) (laid_met os))
theorem gPow : Tryd.prog.globalNamed "internal/strconv.uint64pow10" = some 0 := by kernel_rfl
theorem tPow : (Tryd.prog.globals[0]?).map (·.type) = some 111 := by kernel_rfl
theorem c111 : Tryd.prog.cellsOf 111 = 20 := by kernel_rfl
theorem c77 : Tryd.prog.cellsOf 89 = 1 := by kernel_rfl
set_option maxRecDepth 100000 in
theorem glob {W : World} (h : laidMetH Tryd.prog Rows.paperSpoilsRow.laid W) (hb : 0 < W.heap.size) : Glob W := by
  rw [MakeChecks.laidMetH_plain _ _ _ (by kernel_rfl)] at h
  obtain ⟨ps, ⟨g0, t0, cs0, f0, p0, q0, hg0, ht0, hv0, hd0, ⟨g1, t1, cs1, f1, p1, q1, hg1, ht1, hv1, hd1, ⟨g2, t2, cs2, f2, p2, q2, hg2, ht2, hv2, hd2, _, _⟩, _⟩, _⟩, _⟩ := h
  obtain rfl := Option.some.inj (gPow.symm.trans hg2)
  obtain rfl := Option.some.inj (tPow.symm.trans ht2)
  refine ⟨?_, hb⟩
  unfold Lib.TabIs
  rw [hv2, ← Lib.cells_of_tab (zs := Lib.pow10Tab) (k := .u64) Tryd.underlying111 Tryd.underlying89 c77 c111 (show DataW.trod _ _ _ _ _ _ _ _ _ = some (Lib.tabData .u64 Lib.pow10Tab, _) from hd2)]
theorem big_of {W : World} (h : W.ShapedOpen Tryd.prog) : 0 < W.heap.size := by
  obtain ⟨cs, h1, _⟩ := h.1 3 #[.int .i64 0] 3 (of_decide_eq_true (by kernel_rfl)) (by kernel_rfl)
  exact Nat.lt_of_le_of_lt (Nat.zero_le _) (Array.getElem?_eq_some_iff.1 h1).1
instance : Inhabited S42 := ⟨⟨⟨#[]⟩, ⟨#[]⟩⟩⟩
/-- A paper, as the readers see it. -/
structure Pap where
  k : Int
  a : ByteArray
  b : ByteArray
  l : List S42
theorem os9 : Opens Tryd.prog 9 Kd.string (fun s => s.size ≤ maxLen) := opens_string Tryd.underlying9 (by kernel_rfl)
theorem oi3 : Opens Tryd.prog 3 (Kd.int .i64) (fun n => (Lit.int .i64 n).wf = true) := opens_int Tryd.underlying3 (by kernel_rfl)
theorem open42 : Opens Tryd.prog 42 k42 (fun _ => True) :=
  (opens_struct (d := Kd.pair Kd.string Kd.string) Tryd.underlying42 (by kernel_rfl)
    (FO_more (off2 := 1) rfl rfl os9 rfl (FO_last rfl rfl os9))
    (fun x : S42 => (x.f0, x.f1)) (fun p => ⟨p.1, p.2⟩) (fun _ => rfl)).mono fun _ _ => trivial
theorem open22 : Opens Tryd.prog 22 (Kd.slice 42 k42) (fun _ => True) := (opens_slice Tryd.underlying22 (by kernel_rfl) open42).mono fun _ _ => trivial
theorem open24 : Opens Tryd.prog 24 (Kd.iso (Kd.pair (Kd.int .i64) (Kd.pair Kd.string (Kd.pair Kd.string (Kd.slice 42 k42)))) (fun x : Pap => (x.k, x.a, x.b, x.l))) (fun _ => True) :=
  (opens_struct (d := Kd.pair (Kd.int .i64) (Kd.pair Kd.string (Kd.pair Kd.string (Kd.slice 42 k42)))) Tryd.underlying24 (by kernel_rfl)
    (FO_more (off2 := 1) rfl rfl oi3 rfl (FO_more (off2 := 2) rfl rfl os9 rfl (FO_more (off2 := 3) rfl rfl os9 rfl (FO_last rfl rfl open22))))
    (fun x : Pap => (x.k, x.a, x.b, x.l)) (fun p => ⟨p.1, p.2.1, p.2.2.1, p.2.2.2⟩) (fun _ => rfl)).mono fun _ _ => trivial
theorem open_pap {H : Type} {enc : TypeId × Value → H} {w : World} {sp : Nat → Bool} {held : Bool} {base : Nat} {cs : List Value} {d : DataW H} {p : List MemPlace} (h : ∃ fuel, DataW.trod enc Tryd.prog w base sp held fuel 24 cs = some (d, p)) :
    ∃ (k : Int) (a b : ByteArray) (l : List S42) (A : Option Addr) (c : Nat), cs = [.int .i64 k, .string a, .string b, .slice A l.length c] ∧ l.length ≤ c ∧ Kd.C k42 w A l.length l := by
  obtain ⟨fuel, hf⟩ := h
  obtain ⟨x, hK, _⟩ := open24.op hf
  obtain ⟨c1, r1, e1, h1, c2, r2, e2, h2, c3, r3, e3, h3, A, c, e4, hl, hC⟩ := hK
  refine ⟨x.k, x.a, x.b, x.l, A, c, ?_, hl, hC⟩
  rw [e1, e2, e3, e4, h1, h2, h3]; rfl
set_option maxRecDepth 100000 in
theorem lifted (os : Os) (started : os.Started) (H : Type) (enc : TypeId × Value → H) (F : Stop.Interp) :
    ReturnsInHanded {} Tryd.checked os 3 .any ((OpenSpec.ofChange Rows.paperSpoilsSpec).preRow enc Tryd.prog Tryd.f3 Rows.paperSpoilsRow.domain false Rows.paperSpoilsRow.laid) (((OpenSpec.ofChange Rows.paperSpoilsSpec).at F).post enc Tryd.prog Tryd.f3 false true false false) := by
  obtain ⟨places, hx⟩ := reads os enc
  refine returnsInHanded_of_row (C := Tryd.checked) (s := OpenSpec.ofChange Rows.paperSpoilsSpec) own_ started (by kernel_rfl) Tryd.func3
    (wit os enc) ?_
  intro W base args ds gs before hval0 hW x1 hcond x2 hL x3 x4
  have hval : ∀ (j : Nat) t v, Tryd.f3.params[j]? = some t → args[j]? = some v → Value.okWide Tryd.prog W .any base t v := hval0
  have hW' := hW
  obtain ⟨p, q, hA0, hV, rfl, hfz, hnd⟩ := hW
  have hA : DataW.TrodAll enc Tryd.prog W 0 (fun _ => true) true Tryd.f3.params.toList args.toList ds p := hA0
  rw [Tryd.params3] at hA hval
  obtain ⟨v0, vs0, d0, ds0, p0, q0, hargs, rfl, rfl, h0, r0⟩ := trodAll_cons hA
  obtain ⟨v1, vs1, d1, ds1, p1, q1, rfl, rfl, rfl, h1, r1⟩ := trodAll_cons r0
  obtain ⟨v2, vs2, d2, ds2, p2, q2, rfl, rfl, rfl, h2, r2⟩ := trodAll_cons r1
  obtain ⟨v3, vs3, d3, ds3, p3, q3, rfl, rfl, rfl, h3, r3⟩ := trodAll_cons r2
  obtain ⟨rfl, rfl, rfl⟩ := trodAll_nil r3
  obtain rfl : args = #[v0, v1, v2, v3] := by cases args; simp_all
  obtain ⟨rfl, rfl⟩ := trodVars_none hV
  obtain ⟨cs0, rfl, hcs0⟩ := okWide_struct Tryd.underlying24 (hval 0 24 v0 rfl rfl)
  obtain ⟨s1, rfl, rfl, rfl, hs1⟩ := open_string Tryd.underlying9 (hval 1 9 v1 rfl rfl) h1
  obtain ⟨s2, rfl, rfl, rfl, hs2⟩ := open_string Tryd.underlying9 (hval 2 9 v2 rfl rfl) h2
  obtain ⟨s3, rfl, rfl, rfl, hs3⟩ := open_string Tryd.underlying9 (hval 3 9 v3 rfl rfl) h3
  have lt0 : ∀ x ∈ p0, x.block < W.heap.size := by obtain ⟨m, hm⟩ := h0; exact DataW.trod_lt m _ _ _ hm
  obtain ⟨k, a, b, l, A, c, hxe, hc, hC⟩ := open_pap h0
  obtain ⟨l0⟩ := cs0
  obtain rfl : l0 = [.int .i64 k, .string a, .string b, .slice A l.length c] := by simpa [Value.cells] using hxe
  clear hA0 hval0
  have hG : Glob W := glob hL (big_of x3)
  refine (spoils_walk k a b A c l s1 s2 s3 W hG hC hC.2.1).mono fun e W' ⟨he, bel⟩ => ?_
  subst he
  exact ⟨_, rfl, _, _, _, [], _, [], hW', trodAll_mk1 (shut_bool Tryd.underlying4 _), (trodAll_cons_mk (Below.trod laidOut_ (by kernel_rfl) (of_decide_eq_true (by kernel_rfl)) h0 bel lt0) (trodAll_cons_mk (shut_string Tryd.underlying9 hs1) (trodAll_cons_mk (shut_string Tryd.underlying9 hs2) (trodAll_cons_mk (shut_string Tryd.underlying9 hs3) trodAll_mk0)))), rfl, bel.frame _, fun h => by cases h⟩

theorem said : Rows.PaperSpoilsSaid :=
  OpenClaim.holds_of_cond 3 Tryd.f3 rfl rfl rfl rfl rfl rfl rfl ⟨rfl, rfl, rfl, rfl, rfl⟩ rfl rfl rfl rfl rfl (by kernel_rfl) Tryd.func3 (by kernel_rfl)
    (of_decide_eq_true (by kernel_rfl)) (by unfold Func.isWrapper; first | (rw [if_pos (by decide +kernel)]; kernel_rfl) | (rw [if_neg (by decide +kernel)]; exact ⟨rfl, rfl⟩))
    (fun os started H enc _ F => by rw [OpenClaim.pre_eq_preRow]; exact lifted os started H enc F)

theorem plain (f : FuncId) (fn : Func) (hf : Tryd.pinned.checked.prog.funcNamed "supercargo/supercargolaw21.PaperSpoils" = some f) (hfn : Tryd.pinned.checked.prog.funcs[f]? = some fn) :
    true = Tryd.pinned.checked.prog.looks [] ∧ ∀ (j : Nat) t, fn.params[j]? = some t → Tryd.pinned.checked.prog.wantsStandIn t = false := by
  obtain rfl : f = 3 := Option.some.inj ((show Tryd.prog.funcNamed "supercargo/supercargolaw21.PaperSpoils" = some 3 by kernel_rfl).symm.trans hf) |>.symm
  obtain rfl : fn = Tryd.f3 := (Option.some.inj (Tryd.func3.symm.trans hfn)).symm
  refine ⟨by kernel_rfl, fun j t ht => ?_⟩
  rw [Tryd.params3] at ht
  have ht2 : t = 24 ∨ t = 9 := by simpa using Array.mem_of_getElem? ht
  rcases ht2 with rfl | rfl
  · exact (show Tryd.prog.wantsStandIn 24 = false by kernel_rfl)
  · exact (show Tryd.prog.wantsStandIn 9 = false by kernel_rfl)
end Go.Proofs.YtglgajammfcmcaaDoor.paperSpoils
namespace Go.Proofs.YtglgajammfcmcaaDoor
open paperSpoils
/-- The card. -/
theorem paperSpoils_card : Rows.PaperSpoilsCardSaid :=
  Claim7.holds_tied_plain_at .later [] _ _ _ _ said (fun _ h => by cases h) (by kernel_rfl) (fun _ h => by cases h) paperSpoils_row_tie rfl ⟨rfl, rfl⟩ (by kernel_rfl) rfl plain (by kernel_rfl)
#print axioms paperSpoils_card
end Go.Proofs.YtglgajammfcmcaaDoor

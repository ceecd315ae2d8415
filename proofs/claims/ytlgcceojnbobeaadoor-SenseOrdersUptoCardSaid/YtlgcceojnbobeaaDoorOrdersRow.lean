/-
  The orders of any tree of at most 1048576 values and letters in all: SenseOrders, its card over the second form.
-/
import Derived.Test.YtlgcceojnbobeaaDoorOrdersWit
namespace Go.Proofs.YtlgcceojnbobeaaDoor.senseOrders
open Go.ChangeShapes Go.WideShapes Go.ChangeAt Go.RowKit ScOpenF Go.Proofs.YtlgcceojnbobeaaDoor.A Go.Proofs.YtlgcceojnbobeaaDoorW.PrintWords
set_option linter.unusedVariables false
theorem gPow : Tryd.prog.globalNamed "internal/strconv.uint64pow10" = some 4 := by kernel_rfl
theorem gSpc : Tryd.prog.globalNamed "strings.asciiSpace" = some 0 := by kernel_rfl
theorem gSyn : Tryd.prog.globalNamed "strconv.ErrSyntax" = some 2 := by kernel_rfl
theorem gRng : Tryd.prog.globalNamed "strconv.ErrRange" = some 3 := by kernel_rfl
theorem tPow : (Tryd.prog.globals[4]?).map (·.type) = some 109 := by kernel_rfl
theorem tSpc : (Tryd.prog.globals[0]?).map (·.type) = some 61 := by kernel_rfl
theorem tSyn : (Tryd.prog.globals[2]?).map (·.type) = some 56 := by kernel_rfl
theorem tRng : (Tryd.prog.globals[3]?).map (·.type) = some 56 := by kernel_rfl
theorem c109 : Tryd.prog.cellsOf 109 = 20 := by kernel_rfl
theorem c61 : Tryd.prog.cellsOf 61 = 256 := by kernel_rfl
theorem c77 : Tryd.prog.cellsOf 77 = 1 := by kernel_rfl
theorem c5 : Tryd.prog.cellsOf 5 = 1 := by kernel_rfl
set_option maxRecDepth 100000 in
theorem iface_of {H : Type} {enc : TypeId × Value → H} {W : World} {base : Nat} {sp : Nat → Bool} {held : Bool} {fuel : Nat} {cs : List Value} {nm : String} {d : DataW H} {p : List MemPlace} (h : DataW.trod enc Tryd.prog W base sp held fuel 56 cs = some (.iface nm d, p)) : ∃ u v, cs = [.iface u v] := by
  cases fuel with
  | zero => simp [DataW.trod] at h
  | succ fuel =>
    unfold DataW.trod at h
    rw [Tryd.underlying56] at h
    split at h <;> simp_all
set_option maxRecDepth 100000 in
theorem glob {W : World} (h : laidMetH Tryd.prog Rows.senseOrdersUptoRow.laid W) (hS : W.ShapedOpen Tryd.prog) (hb : 9 ≤ W.heap.size) : Glob W := by
  rw [MakeChecks.laidMetH_plain _ _ _ (by kernel_rfl)] at h
  obtain ⟨ps, ⟨g0, t0, cs0, f0, p0, q0, hg0, ht0, hv0, hd0, ⟨g1, t1, cs1, f1, p1, q1, hg1, ht1, hv1, hd1, ⟨g2, t2, cs2, f2, p2, q2, hg2, ht2, hv2, hd2, ⟨g3, t3, cs3, f3, p3, q3, hg3, ht3, hv3, hd3, ⟨g4, t4, cs4, f4, p4, q4, hg4, ht4, hv4, hd4, ⟨g5, t5, cs5, f5, p5, q5, hg5, ht5, hv5, hd5, ⟨g6, t6, cs6, f6, p6, q6, hg6, ht6, hv6, hd6, _, _⟩, _⟩, _⟩, _⟩, _⟩, _⟩, _⟩, _⟩ := h
  obtain rfl := Option.some.inj (gPow.symm.trans hg2)
  obtain rfl := Option.some.inj (tPow.symm.trans ht2)
  obtain rfl := Option.some.inj (gRng.symm.trans hg3)
  obtain rfl := Option.some.inj (tRng.symm.trans ht3)
  obtain rfl := Option.some.inj (gSyn.symm.trans hg4)
  obtain rfl := Option.some.inj (tSyn.symm.trans ht4)
  obtain rfl := Option.some.inj (gSpc.symm.trans hg6)
  obtain rfl := Option.some.inj (tSpc.symm.trans ht6)
  refine ⟨?_, ?_, ?_, ?_, Tryd.laysM144.s1_3 W hS, hb⟩
  · obtain ⟨u, v, e⟩ := iface_of (show DataW.trod _ _ _ _ _ _ _ 56 _ = some (.iface _ _, _) from hd4)
    exact ⟨u, v, by rw [hv4, Array.eq_one_of_toList e]⟩
  · obtain ⟨u, v, e⟩ := iface_of (show DataW.trod _ _ _ _ _ _ _ 56 _ = some (.iface _ _, _) from hd3)
    exact ⟨u, v, by rw [hv3, Array.eq_one_of_toList e]⟩
  · unfold Lib.TabIs
    rw [hv2, ← Lib.cells_of_tab (zs := Lib.pow10Tab) (k := .u64) Tryd.underlying109 Tryd.underlying77 c77 c109 (show DataW.trod _ _ _ _ _ _ _ _ _ = some (Lib.tabData .u64 Lib.pow10Tab, _) from hd2)]
  · unfold Lib.TabIs
    rw [hv6, ← Lib.cells_of_tab (zs := Lib.asciiSpaceTab) (k := .u8) Tryd.underlying61 Tryd.underlying5 c5 c61 (show DataW.trod _ _ _ _ _ _ _ _ _ = some (Lib.tabData .u8 Lib.asciiSpaceTab, _) from hd6)]
theorem open_tree {H : Type} {enc : TypeId × Value → H} {w : World} {sp : Nat → Bool} {held : Bool} {base : Nat} {cs : List Value} {d : DataW H} {p : List MemPlace} (h : ∃ fuel, DataW.trod enc Tryd.prog w base sp held fuel 24 cs = some (d, p)) :
    ∃ (x : S24) (A : Option Addr) (c : Nat), cs = [.int .i64 x.f0, .int .i64 x.f1, .string x.f2, .string x.f3, .int .i64 x.f4, .slice A x.f5.length c] ∧ x.f5.length ≤ c ∧ Kd.C k24 w A x.f5.length x.f5 ∧ strs x ≤ 2 * Rows.uptoBulk d := by
  obtain ⟨fuel, hf⟩ := h
  obtain ⟨x, hK, hs⟩ := (open24 fuel).op (Nat.le_refl _) hf
  obtain ⟨A, c, e, hl, hC⟩ := k24_open hK
  exact ⟨x, A, c, e, hl, hC, hs⟩
theorem big_of {W : World} (h : W.ShapedOpen Tryd.prog) : 9 ≤ W.heap.size := by
  obtain ⟨cs, h1, _⟩ := h.1 8 #[.pointer none] 74 (of_decide_eq_true (by kernel_rfl)) (by kernel_rfl)
  exact (Array.getElem?_eq_some_iff.1 h1).1
set_option maxRecDepth 100000 in
theorem liftedUpto (os : Os) (started : os.Started) (H : Type) (enc : TypeId × Value → H) (F : Stop.Interp) :
    ReturnsInHanded {} Tryd.checked os 3 .any ((Rows.OpenSpec.upto Rows.senseOrdersSpec).preRow enc Tryd.prog Tryd.f3 Rows.senseOrdersUptoRow.domain false Rows.senseOrdersUptoRow.laid) (((Rows.OpenSpec.upto Rows.senseOrdersSpec).at F).post enc Tryd.prog Tryd.f3 false true false false) := by
  obtain ⟨places, hx⟩ := reads os enc
  refine returnsInHanded_of_row (C := Tryd.checked) (s := Rows.OpenSpec.upto Rows.senseOrdersSpec) own_ started (by kernel_rfl) Tryd.func3
    (wit os enc) ?_
  intro W base args ds gs before hval0 hW x1 hcond x2 hL x3 x4
  have hbulk := bound (hcond _ rfl)
  have hval : ∀ (j : Nat) t v, Tryd.f3.params[j]? = some t → args[j]? = some v → Value.okWide Tryd.prog W .any base t v := hval0
  have hW' := hW
  obtain ⟨p, q, hA0, hV, rfl, hfz, hnd⟩ := hW
  have hA : DataW.TrodAll enc Tryd.prog W 0 (fun _ => true) true Tryd.f3.params.toList args.toList ds p := hA0
  rw [Tryd.params3] at hA hval
  obtain ⟨v0, vs0, d0, ds0, p0, q0, hargs, rfl, rfl, h0, r0⟩ := trodAll_cons hA
  obtain ⟨rfl, rfl, rfl⟩ := trodAll_nil r0
  obtain rfl : args = #[v0] := by cases args; simp_all
  obtain ⟨rfl, rfl⟩ := trodVars_none hV
  obtain ⟨cs0, rfl, hcs0⟩ := okWide_struct Tryd.underlying24 (hval 0 24 v0 rfl rfl)
  have lt0 : ∀ x ∈ p0, x.block < W.heap.size := by obtain ⟨m, hm⟩ := h0; exact DataW.trod_lt m _ _ _ hm
  obtain ⟨x, A, c, hxe, hc, hC, hs⟩ := open_tree h0
  have hb0 : Rows.uptoBulk d0 ≤ 1048576 := Nat.le_trans (part_le (List.mem_append_left _ (by simp))) hbulk
  obtain ⟨l0⟩ := cs0
  obtain rfl : l0 = [.int .i64 x.f0, .int .i64 x.f1, .string x.f2, .string x.f3, .int .i64 x.f4, .slice A x.f5.length c] := by simpa [Value.cells] using hxe
  clear hA0 hval0
  have hG : Glob W := glob hL x3 (big_of x3)
  have hst : strs ⟨x.f0, x.f1, x.f2, x.f3, x.f4, x.f5⟩ ≤ 1099511627776 := by
    have e : strs ⟨x.f0, x.f1, x.f2, x.f3, x.f4, x.f5⟩ = strs x := by cases x; rfl
    omega
  refine (orders_walk x.f0 x.f1 x.f4 x.f2 x.f3 x.f5 A c W hG hst hC hc).mono fun e W' ⟨he, bel⟩ => ?_
  subst he
  exact ⟨_, rfl, _, _, _, [], _, [], hW', trodAll_mk1 (shut_bool Tryd.underlying4 _), (trodAll_cons_mk (Below.trod laidOut_ (by kernel_rfl) (of_decide_eq_true (by kernel_rfl)) h0 bel lt0) trodAll_mk0), rfl, bel.frame _, fun h => by cases h⟩

theorem saidUpto : Rows.SenseOrdersUptoSaid :=
  OpenClaim.holds_of_cond 3 Tryd.f3 rfl rfl rfl rfl rfl rfl rfl ⟨rfl, rfl, rfl, rfl, rfl⟩ rfl rfl rfl rfl rfl (by kernel_rfl) Tryd.func3 (by kernel_rfl)
    (of_decide_eq_true (by kernel_rfl)) (by unfold Func.isWrapper; first | (rw [if_pos (by decide +kernel)]; kernel_rfl) | (rw [if_neg (by decide +kernel)]; exact ⟨rfl, rfl⟩))
    (fun os started H enc _ F => by rw [OpenClaim.pre_eq_preRow]; exact liftedUpto os started H enc F)

theorem plain (f : FuncId) (fn : Func) (hf : Tryd.pinned.checked.prog.funcNamed "supercargo/supercargolaw29.SenseOrders" = some f) (hfn : Tryd.pinned.checked.prog.funcs[f]? = some fn) :
    true = Tryd.pinned.checked.prog.looks [] ∧ ∀ (j : Nat) t, fn.params[j]? = some t → Tryd.pinned.checked.prog.wantsStandIn t = false := by
  obtain rfl : f = 3 := Option.some.inj ((show Tryd.prog.funcNamed "supercargo/supercargolaw29.SenseOrders" = some 3 by kernel_rfl).symm.trans hf) |>.symm
  obtain rfl : fn = Tryd.f3 := (Option.some.inj (Tryd.func3.symm.trans hfn)).symm
  refine ⟨by kernel_rfl, fun j t ht => ?_⟩
  rw [Tryd.params3] at ht
  obtain rfl : t = 24 := by simpa using Array.mem_of_getElem? ht
  exact (show Tryd.prog.wantsStandIn 24 = false by kernel_rfl)
end Go.Proofs.YtlgcceojnbobeaaDoor.senseOrders
namespace Go.Proofs.YtlgcceojnbobeaaDoor
open senseOrders
/-- The second form's card. -/
theorem senseOrders_card : Rows.SenseOrdersUptoCardSaid :=
  Claim7.holds_tied_plain_at .later [] _ _ _ _ saidUpto (fun _ h => by cases h) (by kernel_rfl) (fun _ h => by cases h) senseOrdersUpto_row_tie rfl ⟨rfl, rfl⟩ (by kernel_rfl) rfl plain (by kernel_rfl)
#print axioms senseOrders_card
end Go.Proofs.YtlgcceojnbobeaaDoor

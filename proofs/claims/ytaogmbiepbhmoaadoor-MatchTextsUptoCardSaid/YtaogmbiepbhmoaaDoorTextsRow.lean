/-
  The text of any posts is the document's, of at most 1048576 values and letters in all: MatchTexts, its card over the second form.
-/
import Derived.Test.YtaogmbiepbhmoaaDoorCards
import Derived.Test.YtaogmbiepbhmoaaDoorTie
import Derived.Test.YtaogmbiepbhmoaaDoorOpen
import Derived.Test.YtaogmbiepbhmoaaDoorTextsWalk
import Derived.WalkKit
import Derived.ProofKit
import Derived.OpenShut
import Derived.ChangeOld
import Derived.Below
import Derived.Deep.DeepHandedRow
import Derived.Lib.LaidTab
import Derived.MakeChecks
namespace Go.Proofs.YtaogmbiepbhmoaaDoor.matchTexts
open Go.ChangeShapes Go.WideShapes Go.ChangeAt Go.RowKit ScOpenB Go.Proofs.YtaogmbiepbhmoaaDoor.A Go.Proofs.YtaogmbiepbhmoaaDoorW.PrintWords
set_option linter.unusedVariables false
instance : Inhabited S46 := ⟨z46⟩
instance : Inhabited S29 := ⟨z29⟩
theorem own_ : ownKnob Tryd.prog.godebug = none := by kernel_rfl
theorem laidOut_ : laidOutB Tryd.prog = true := by kernel_rfl
theorem gTab : Tryd.prog.globalNamed "internal/strconv.uint64pow10" = some 0 := by kernel_rfl
theorem gTabType : (Tryd.prog.globals[0]?).map (·.type) = some 92 := by kernel_rfl
theorem cellsTab : Tryd.prog.cellsOf 92 = 20 := by kernel_rfl
theorem cellsU : Tryd.prog.cellsOf 73 = 1 := by kernel_rfl

/-- What the row's list gives: the table of powers. -/
theorem table {W : World} (h : laidMetH Tryd.prog Rows.matchTextsUptoRow.laid W) : Lib.TabIs Tryd.prog W "internal/strconv.uint64pow10" .u64 Lib.pow10Tab := by
  rw [MakeChecks.laidMetH_plain _ _ _ (by kernel_rfl)] at h
  obtain ⟨ps, ⟨g0, t0, cs0, f0, p0, q0, _, _, _, _, ⟨g1, t1, cs1, f1, p1, q1, _, _, _, _, ⟨g2, t2, cs2, f2, p2, q2, hg2, ht2, hv2, hd2, _, _⟩, _⟩, _⟩, _⟩ := h
  obtain rfl := Option.some.inj (gTab.symm.trans hg2)
  obtain rfl := Option.some.inj (gTabType.symm.trans ht2)
  unfold Lib.TabIs
  rw [hv2, ← Lib.cells_of_tab (zs := Lib.pow10Tab) (k := .u64) Tryd.underlying92 Tryd.underlying73 cellsU cellsTab (show DataW.trod _ _ _ _ _ _ _ _ _ = some (Lib.tabData .u64 Lib.pow10Tab, _) from hd2)]
theorem tabled {W : World} (h : laidMetH Tryd.prog Rows.matchTextsUptoRow.laid W) : Lib.TabBelow Tryd.prog W.heap.size W "internal/strconv.uint64pow10" .u64 Lib.pow10Tab := by
  intro w' hb
  have h0 := table h
  have h1 := h0.cell gTab 0 (by decide)
  exact var?_below hb gTab (World.block_lt_of_cell? W _ h1) h0

theorem os9 : Opens Tryd.prog 9 Kd.string (fun N s => s.size ≤ maxLen ∧ s.size ≤ N) := opens_string Tryd.underlying9 (by kernel_rfl)
theorem oi2 : Opens Tryd.prog 2 (Kd.int .i64) (fun _ n => (Lit.int .i64 n).wf = true) := opens_int Tryd.underlying2 (by kernel_rfl)
theorem oi3 : Opens Tryd.prog 3 (Kd.int .i64) (fun _ n => (Lit.int .i64 n).wf = true) := opens_int Tryd.underlying3 (by kernel_rfl)
def Ent (N : Nat) (s : S46) : Prop := (s.f0.size ≤ N ∧ s.f1.size ≤ N) ∧ (Lit.int .i64 s.f2).wf = true
def Pst (N : Nat) (s : S29) : Prop := (Lit.int .i64 s.f0).wf = true ∧ ∀ x ∈ s.f2, Ent N x
theorem open46 : Opens Tryd.prog 46 k46 Ent :=
  (opens_struct (d := Kd.pair Kd.string (Kd.pair Kd.string (Kd.int .i64))) Tryd.underlying46 (by kernel_rfl)
    (FO_more (off2 := 1) rfl rfl os9 rfl (FO_more (off2 := 2) rfl rfl os9 rfl (FO_last rfl rfl oi2)))
    (fun x : S46 => (x.f0, x.f1, x.f2)) (fun p => ⟨p.1, p.2.1, p.2.2⟩) (fun _ => rfl)).mono (fun hn h => ⟨⟨Nat.le_trans h.1.1 hn, Nat.le_trans h.1.2 hn⟩, h.2⟩) fun _ _ h => ⟨⟨h.1.2, h.2.1.2⟩, h.2.2⟩
theorem open27 : Opens Tryd.prog 27 (Kd.slice 46 k46) (fun N l => ∀ x ∈ l, Ent N x) := opens_slice Tryd.underlying27 (by kernel_rfl) open46
theorem open29 : Opens Tryd.prog 29 k29 Pst :=
  (opens_struct (d := Kd.pair (Kd.int .i64) (Kd.pair Kd.string (Kd.slice 46 k46))) Tryd.underlying29 (by kernel_rfl)
    (FO_more (off2 := 1) rfl rfl oi3 rfl (FO_more (off2 := 2) rfl rfl os9 rfl (FO_last rfl rfl open27)))
    (fun x : S29 => (x.f0, x.f1, x.f2)) (fun p => ⟨p.1, p.2.1, p.2.2⟩) (fun _ => rfl)).mono (fun hn h => ⟨h.1, fun x hx => ⟨⟨Nat.le_trans (h.2 x hx).1.1 hn, Nat.le_trans (h.2 x hx).1.2 hn⟩, (h.2 x hx).2⟩⟩) fun _ _ h => ⟨h.1, h.2.2⟩
theorem open22 : Opens Tryd.prog 22 (Kd.slice 29 k29) (fun N l => ∀ x ∈ l, Pst N x) := opens_slice Tryd.underlying22 (by kernel_rfl) open29
theorem open_posts {H : Type} {enc : TypeId × Value → H} {w : World} {sp : Nat → Bool} {held : Bool} {base : Nat} {a : Option Addr} {n c : Nat} {d : DataW H} {p : List MemPlace} (h : DataW.Trod enc Tryd.prog w base sp held 22 (.slice a n c) d p) :
    ∃ l : List S29, l.length = n ∧ n ≤ c ∧ Kd.C k29 w a l.length l ∧ ∀ x ∈ l, Pst (Rows.uptoBulk d) x := by
  obtain ⟨fuel, hf⟩ := h
  obtain ⟨l, ⟨A, c', e, hl, hC⟩, hg⟩ := open22.op hf
  simp [Value.cells] at e
  obtain ⟨rfl, rfl, rfl⟩ := e
  exact ⟨l, rfl, hl, hC, hg⟩

noncomputable def layAt (h : Array Obj) (k : Nat) (cs : Array Value) : Array Obj := h.modify k fun
  | .cells _ t frozen => .cells cs t frozen
  | o => o
/-- A world for the witness: the settled one, the three tables as their initialisers lay them. -/
noncomputable def laidWorld (os : Os) : World :=
  { World.holding Tryd.prog os ⟨#[], #[], []⟩ with heap := layAt (layAt (layAt (World.holding Tryd.prog os ⟨#[], #[], []⟩).heap 0 #[.int .u64 1, .int .u64 10, .int .u64 100, .int .u64 1000, .int .u64 10000, .int .u64 100000, .int .u64 1000000, .int .u64 10000000, .int .u64 100000000, .int .u64 1000000000, .int .u64 10000000000, .int .u64 100000000000, .int .u64 1000000000000, .int .u64 10000000000000, .int .u64 100000000000000, .int .u64 1000000000000000, .int .u64 10000000000000000, .int .u64 100000000000000000, .int .u64 1000000000000000000, .int .u64 10000000000000000000]) 1 #[.int .u8 0, .int .u8 1, .int .u8 28, .int .u8 2, .int .u8 29, .int .u8 14, .int .u8 24, .int .u8 3, .int .u8 30, .int .u8 22, .int .u8 20, .int .u8 15, .int .u8 25, .int .u8 17, .int .u8 4, .int .u8 8, .int .u8 31, .int .u8 27, .int .u8 13, .int .u8 23, .int .u8 21, .int .u8 19, .int .u8 16, .int .u8 7, .int .u8 26, .int .u8 12, .int .u8 18, .int .u8 6, .int .u8 11, .int .u8 5, .int .u8 10, .int .u8 9]) 2 #[.int .u8 0, .int .u8 1, .int .u8 56, .int .u8 2, .int .u8 57, .int .u8 49, .int .u8 28, .int .u8 3, .int .u8 61, .int .u8 58, .int .u8 42, .int .u8 50, .int .u8 38, .int .u8 29, .int .u8 17, .int .u8 4, .int .u8 62, .int .u8 47, .int .u8 59, .int .u8 36, .int .u8 45, .int .u8 43, .int .u8 51, .int .u8 22, .int .u8 53, .int .u8 39, .int .u8 33, .int .u8 30, .int .u8 24, .int .u8 18, .int .u8 12, .int .u8 5, .int .u8 63, .int .u8 55, .int .u8 48, .int .u8 27, .int .u8 60, .int .u8 41, .int .u8 37, .int .u8 16, .int .u8 46, .int .u8 35, .int .u8 44, .int .u8 21, .int .u8 52, .int .u8 32, .int .u8 23, .int .u8 11, .int .u8 54, .int .u8 26, .int .u8 40, .int .u8 15, .int .u8 34, .int .u8 20, .int .u8 31, .int .u8 10, .int .u8 25, .int .u8 14, .int .u8 19, .int .u8 9, .int .u8 13, .int .u8 8, .int .u8 7, .int .u8 6] }
theorem laid_met (os : Os) : laidMet Tryd.prog Rows.matchTextsUptoRow.laid ((laidWorld os).forCall (fun _ _ => 0) ⟨#[], #[.slice none 0 0], []⟩).memory :=
  laidMet_of_run' 8 (by kernel_rfl) (by kernel_rfl)
theorem reads (os : Os) {H : Type} (enc : TypeId × Value → H) : ∃ places, DataW.whole enc Tryd.prog ((laidWorld os).forCall (fun _ _ => 0) ⟨#[], #[.slice none 0 0], []⟩).memory Tryd.f3.params.toList Rows.matchTextsSpec.vars false #[Value.slice none 0 0].toList 8 = some ([.nil], [], places) :=
  ⟨[], by kernel_rfl⟩

set_option maxRecDepth 100000 in
theorem liftedUpto (os : Os) (started : os.Started) (H : Type) (enc : TypeId × Value → H) (F : Stop.Interp) :
    ReturnsInHanded {} Tryd.checked os 3 .any ((Rows.OpenSpec.upto Rows.matchTextsSpec).preRow enc Tryd.prog Tryd.f3 Rows.matchTextsUptoRow.domain false Rows.matchTextsUptoRow.laid) (((Rows.OpenSpec.upto Rows.matchTextsSpec).at F).post enc Tryd.prog Tryd.f3 false true false false) := by
  obtain ⟨places, hx⟩ := reads os enc
  refine returnsInHanded_of_row (C := Tryd.checked) (s := Rows.OpenSpec.upto Rows.matchTextsSpec) own_ started (by kernel_rfl) Tryd.func3
    (witness_row_at (enc := enc) (C := Tryd.checked) false (laidWorld os) #[.slice none 0 0] rfl (by kernel_rfl) (by kernel_rfl) (by kernel_rfl)
      (OpenSpec.preRow_of_cond 8 hx (by kernel_rfl) (fun k hk => by cases hk; kernel_rfl) (by kernel_rfl) (laid_met os))) ?_
  intro W base args ds gs before hval0 hW _ hcond _ hL _ _
  have hbulk := bound (hcond _ rfl)
  have hval : ∀ (j : Nat) t v, Tryd.f3.params[j]? = some t → args[j]? = some v → Value.okWide Tryd.prog W .any base t v := hval0
  have hW' := hW
  obtain ⟨p, q, hA0, hV, rfl, hfz, hnd⟩ := hW
  have hA : DataW.TrodAll enc Tryd.prog W 0 (fun _ => true) true Tryd.f3.params.toList args.toList ds p := hA0
  rw [Tryd.params3] at hA hval
  obtain ⟨v0, vs0, d0, ds0, p0, q0, hargs, rfl, rfl, h0, r0⟩ := trodAll_cons hA
  obtain ⟨rfl, rfl, rfl⟩ := trodAll_nil r0
  obtain rfl : args = #[v0] := by cases args; simp_all
  obtain ⟨rfl, rfl⟩ := trodVars_none hV
  obtain ⟨a0, len0, cap0, rfl⟩ := okWide_slice Tryd.underlying22 (hval 0 22 v0 rfl rfl)
  have lt0 : ∀ x ∈ p0, x.block < W.heap.size := by obtain ⟨m, hm⟩ := h0; exact DataW.trod_lt m _ _ _ hm
  obtain ⟨l0, rfl, hc0, hC0, hg0⟩ := open_posts h0
  have hb0 : Rows.uptoBulk d0 ≤ 1048576 := Nat.le_trans (part_le (List.mem_append_left _ (by simp))) hbulk
  have hB : Bulk l0 := fun x hx => ⟨(hg0 x hx).1, fun e he => ⟨⟨Nat.le_trans ((hg0 x hx).2 e he).1.1 hb0, Nat.le_trans ((hg0 x hx).2 e he).1.2 hb0⟩, ((hg0 x hx).2 e he).2⟩⟩
  clear hA0 hval0
  refine (texts_walk a0 cap0 l0 W hc0 hC0 hB (tabled hL)).mono fun e W' ⟨he, bel⟩ => ?_
  subst he
  exact ⟨_, rfl, _, _, _, [], _, [], hW', trodAll_mk1 (shut_bool Tryd.underlying4 _), (trodAll_cons_mk (Below.trod laidOut_ (by kernel_rfl) (of_decide_eq_true (by kernel_rfl)) h0 bel lt0) trodAll_mk0), rfl, bel.frame _, fun h => by cases h⟩

theorem saidUpto : Rows.MatchTextsUptoSaid :=
  OpenClaim.holds_of_cond 3 Tryd.f3 rfl rfl rfl rfl rfl rfl rfl ⟨rfl, rfl, rfl, rfl, rfl⟩ rfl rfl rfl rfl rfl (by kernel_rfl) Tryd.func3 (by kernel_rfl)
    (of_decide_eq_true (by kernel_rfl)) (by unfold Func.isWrapper; first | (rw [if_pos (by decide +kernel)]; kernel_rfl) | (rw [if_neg (by decide +kernel)]; exact ⟨rfl, rfl⟩))
    (fun os started H enc _ F => by rw [OpenClaim.pre_eq_preRow]; exact liftedUpto os started H enc F)

theorem plain (f : FuncId) (fn : Func) (hf : Tryd.pinned.checked.prog.funcNamed "supercargo/supercargolaw48.MatchTexts" = some f) (hfn : Tryd.pinned.checked.prog.funcs[f]? = some fn) :
    false = Tryd.pinned.checked.prog.looks [] ∧ ∀ (j : Nat) t, fn.params[j]? = some t → Tryd.pinned.checked.prog.wantsStandIn t = false := by
  obtain rfl : f = 3 := Option.some.inj ((show Tryd.prog.funcNamed "supercargo/supercargolaw48.MatchTexts" = some 3 by kernel_rfl).symm.trans hf) |>.symm
  obtain rfl : fn = Tryd.f3 := (Option.some.inj (Tryd.func3.symm.trans hfn)).symm
  refine ⟨by kernel_rfl, fun j t ht => ?_⟩
  rw [Tryd.params3] at ht
  obtain rfl : t = 22 := by simpa using Array.mem_of_getElem? ht
  exact (show Tryd.prog.wantsStandIn 22 = false by kernel_rfl)
end Go.Proofs.YtaogmbiepbhmoaaDoor.matchTexts
namespace Go.Proofs.YtaogmbiepbhmoaaDoor
open matchTexts
/-- The second form's card. -/
theorem matchTexts_card : Rows.MatchTextsUptoCardSaid :=
  Claim7.holds_tied_plain_at .later [] _ _ _ _ saidUpto (fun _ h => by cases h) (by kernel_rfl) (fun _ h => by cases h) matchTextsUpto_row_tie rfl ⟨rfl, rfl⟩ (by kernel_rfl) rfl plain (by kernel_rfl)
#print axioms matchTexts_card
end Go.Proofs.YtaogmbiepbhmoaaDoor

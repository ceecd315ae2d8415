/-
  Two banks are balanced as long as the mail alone parts them: MatchBalances, its row over all sums, all marks and every lost letter.
-/
import Derived.Test.YtaogmbiepbhmoaaRow2
import Derived.Test.YtaogmbiepbhmoaaBalWalk
namespace Go.Proofs.Ytaogmbiepbhmoaa.matchBalances
open Go.ChangeShapes Go.WideShapes Go.ChangeAt Go.RowKit Go.Proofs.Ytaogmbiepbhmoaa.A
open Go.ChangeMaps (open_string shut_string)
open Go.Proofs.YtaogmbiepbhmoaaW.PrintWords
set_option linter.unusedVariables false
theorem open_u32s {H : Type} {enc : TypeId × Value → H} {w : World} {sp : Nat → Bool} {held : Bool} {base : Nat} {a : Option Addr} {n c : Nat} {d : DataW H} {p : List MemPlace} (h : DataW.Trod enc Try.prog w base sp held 38 (.slice a n c) d p) :
    ∃ l : List Int, l.length = n ∧ n ≤ c ∧ Kd.C (Kd.int .u32) w a l.length l ∧ ∀ x ∈ l, (Lit.int .u32 x).wf = true := by
  obtain ⟨fuel, hf⟩ := h
  obtain ⟨l, ⟨A, c', e, hl, hC⟩, hg⟩ := (ScOpen.opens_slice (e := 50) (d := Kd.int .u32) Try.underlying38 (by kernel_rfl) (ScOpen.opens_int Try.underlying50 (by kernel_rfl))).op hf
  simp [Value.cells] at e
  obtain ⟨rfl, rfl, rfl⟩ := e
  exact ⟨l, rfl, hl, hC, hg⟩
theorem open_bools {H : Type} {enc : TypeId × Value → H} {w : World} {sp : Nat → Bool} {held : Bool} {base : Nat} {a : Option Addr} {n c : Nat} {d : DataW H} {p : List MemPlace} (h : DataW.Trod enc Try.prog w base sp held 39 (.slice a n c) d p) :
    ∃ l : List Bool, l.length = n ∧ n ≤ c ∧ Kd.C Kd.bool w a l.length l := by
  obtain ⟨fuel, hf⟩ := h
  obtain ⟨l, ⟨A, c', e, hl, hC⟩, _⟩ := (ScOpen.opens_slice (e := 4) (d := Kd.bool) Try.underlying39 (by kernel_rfl) (ScOpen.opens_bool Try.underlying4 (by kernel_rfl))).op hf
  simp [Value.cells] at e
  obtain ⟨rfl, rfl, rfl⟩ := e
  exact ⟨l, rfl, hl, hC⟩
set_option maxRecDepth 100000 in
theorem lifted (os : Os) (started : os.Started) (H : Type) (enc : TypeId × Value → H) :
    ReturnsInHanded {} Try.checked os 6 .any (Rows.matchBalancesSpec.pre6 enc Try.prog Try.f6 Rows.matchBalancesRow.domain false) (Rows.matchBalancesSpec.post enc Try.prog Try.f6 false true false false) := by
  refine returnsInHanded_of_change_sized (C := Try.checked) own_ started (by kernel_rfl) Try.func6
    (ChangeSpec.witness6 (enc := enc) (C := Try.checked) false ⟨#[], #[.slice none 0 0, .slice none 0 0, .int .u8 0], []⟩ 8 (by kernel_rfl) (by kernel_rfl) (by kernel_rfl) (by kernel_rfl)) ?_
  intro W base args ds gs before hval0 hW hcnd hsz0 _
  have hval : ∀ (j : Nat) t v, Try.f6.params[j]? = some t → args[j]? = some v → Value.okWide Try.prog W .any base t v := hval0
  have hW' := hW
  obtain ⟨p, q, hA0, hV, rfl, hfz, hnd⟩ := hW
  have hA : DataW.TrodAll enc Try.prog W 0 (fun _ => true) true Try.f6.params.toList args.toList ds p := hA0
  rw [Try.params6] at hA hval
  obtain ⟨v0, vs0, d0, ds0, p0, q0, hargs, rfl, rfl, h0, r0⟩ := trodAll_cons hA
  obtain ⟨v1, vs1, d1, ds1, p1, q1, rfl, rfl, rfl, h1, r1⟩ := trodAll_cons r0
  obtain ⟨v2, vs2, d2, ds2, p2, q2, rfl, rfl, rfl, h2, r2⟩ := trodAll_cons r1
  obtain ⟨rfl, rfl, rfl⟩ := trodAll_nil r2
  obtain rfl : args = #[v0, v1, v2] := by cases args; simp_all
  obtain ⟨rfl, rfl⟩ := trodVars_none hV
  obtain ⟨a0, len0, cap0, rfl⟩ := okWide_slice Try.underlying38 (hval 0 38 v0 rfl rfl)
  obtain ⟨a1, len1, cap1, rfl⟩ := okWide_slice Try.underlying39 (hval 1 39 v1 rfl rfl)
  have lt0 : ∀ x ∈ p0, x.block < W.heap.size := by obtain ⟨m, hm⟩ := h0; exact DataW.trod_lt m _ _ _ hm
  have lt1 : ∀ x ∈ p1, x.block < W.heap.size := by obtain ⟨m, hm⟩ := h1; exact DataW.trod_lt m _ _ _ hm
  obtain ⟨l0, rfl, hc0, hC0, hg0⟩ := open_u32s h0
  obtain ⟨l1, rfl, hc1, hC1⟩ := open_bools h1
  obtain ⟨z, rfl, rfl, rfl, hz⟩ := open_int Try.underlying5 (hval 2 5 v2 rfl rfl) h2
  clear hA0 hval0 hsz0
  refine (walk a0 cap0 l0 a1 cap1 l1 z W hc0 hC0 hg0 hc1 hC1 hz).mono fun e W' ⟨he, bel⟩ => ?_
  subst he
  exact ⟨_, rfl, _, _, _, [], _, [], hW', trodAll_mk1 (shut_bool Try.underlying4 _), (trodAll_cons_mk (Below.trod laidOut_ (by kernel_rfl) (of_decide_eq_true (by kernel_rfl)) h0 bel lt0) (trodAll_cons_mk (Below.trod laidOut_ (by kernel_rfl) (of_decide_eq_true (by kernel_rfl)) h1 bel lt1) (trodAll_cons_mk (shut_int Try.underlying5 hz) trodAll_mk0))), rfl, bel.frame _, fun h => by cases h⟩
theorem over : Rows.matchBalancesRow.holds Try.pinned (OpenSpec.ofChange Rows.matchBalancesSpec) :=
  OpenClaim.holds_of_wide 6 Try.f6 rfl rfl rfl rfl rfl rfl rfl ⟨rfl, rfl, rfl, rfl, rfl⟩ rfl rfl rfl rfl rfl (by kernel_rfl) Try.func6 (by kernel_rfl)
    (of_decide_eq_true (by kernel_rfl)) (by unfold Func.isWrapper; first | (rw [if_pos (by decide +kernel)]; kernel_rfl) | (rw [if_neg (by decide +kernel)]; exact ⟨rfl, rfl⟩))
    (fun os started H enc _ => lifted os started H enc)
theorem proved : Rows.MatchBalancesSaid := over
#print axioms proved
end Go.Proofs.Ytaogmbiepbhmoaa.matchBalances
namespace Go.Proofs.Ytaogmbiepbhmoaa
/-- The row, under a short name, for the claim. -/
theorem matchBalances_holds : Rows.MatchBalancesSaid := matchBalances.proved
end Go.Proofs.Ytaogmbiepbhmoaa

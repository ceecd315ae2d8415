/- The tree as data. -/
import Derived.Test.YtlgcceojnbobeaaDoorOpen
import Derived.Test.YtlgcceojnbobeaaDoorEvs3
namespace Go.Proofs.YtlgcceojnbobeaaDoor.A
open Go.RowKit ScOpenF Go.Proofs.YtlgcceojnbobeaaDoorW.PrintWords
set_option linter.unusedVariables false
instance : Inhabited S24 := ⟨z24⟩
theorem strsL_le {B : Nat} {l : List S24} (h : ∀ y ∈ l, strs y ≤ B) : strsL l ≤ B := by
  induction l with
  | nil => simp [strsL]
  | cons y l ih =>
    simp only [strsL]
    have h1 := h y List.mem_cons_self
    have h2 := ih (fun z hz => h z (List.mem_cons_of_mem _ hz))
    omega
theorem os9 {F : Nat} : Opens F Tryd.prog 9 Kd.string (fun N s => s.size ≤ maxLen ∧ s.size ≤ N) := opens_string Tryd.underlying9 (by kernel_rfl)
theorem oi3 {F : Nat} : Opens F Tryd.prog 3 (Kd.int .i64) (fun _ n => (Lit.int .i64 n).wf = true) := opens_int Tryd.underlying3 (by kernel_rfl)
theorem oi2 {F : Nat} : Opens F Tryd.prog 2 (Kd.int .i64) (fun _ n => (Lit.int .i64 n).wf = true) := opens_int Tryd.underlying2 (by kernel_rfl)
theorem open24 (F : Nat) : Opens F Tryd.prog 24 k24 (fun N x => strs x ≤ 2 * N) := by
  induction F with
  | zero => exact ⟨by kernel_rfl, fun hn h => by omega, fun hF h => by
      obtain rfl := Nat.le_zero.1 hF
      simp [DataW.trod] at h⟩
  | succ F ih =>
    have h22 : Opens F Tryd.prog 22 (Kd.slice 24 k24) (fun N l => ∀ x ∈ l, strs x ≤ 2 * N) := opens_slice Tryd.underlying22 (by kernel_rfl) ih
    have h := opens_struct (F := F) (d := Kd.pair (Kd.int .i64) (Kd.pair (Kd.int .i64) (Kd.pair Kd.string (Kd.pair Kd.string (Kd.pair (Kd.int .i64) (Kd.slice 24 k24)))))) Tryd.underlying24 (by kernel_rfl)
      (FO_more (off2 := 1) rfl rfl oi3 rfl (FO_more (off2 := 2) rfl rfl oi3 rfl (FO_more (off2 := 3) rfl rfl os9 rfl (FO_more (off2 := 4) rfl rfl os9 rfl (FO_more (off2 := 5) rfl rfl oi2 rfl (FO_last rfl rfl h22))))))
      (fun x : S24 => (x.f0, x.f1, x.f2, x.f3, x.f4, x.f5)) (fun p => ⟨p.1, p.2.1, p.2.2.1, p.2.2.2.1, p.2.2.2.2.1, p.2.2.2.2.2⟩) (fun _ => rfl)
    refine ⟨by kernel_rfl, fun hn h => by omega, fun hF hh => ?_⟩
    obtain ⟨a, h1, h2⟩ := h.op hF hh
    obtain ⟨_, _, rfl, rfl, ⟨_, _, rfl, rfl, ⟨_, _, rfl, rfl, ⟨_, _, rfl, rfl, ⟨_, _, rfl, rfl, ⟨A5, c5, rfl, l5, g5⟩⟩⟩⟩⟩⟩ := h1
    refine ⟨a, k24_mk _ a l5 g5, ?_⟩
    obtain ⟨_, _, ⟨_, s2⟩, ⟨_, s3⟩, _, s5⟩ := h2
    have := strsL_le s5
    simp only at s2 s3 this
    rw [strs_eq]
    omega
end Go.Proofs.YtlgcceojnbobeaaDoor.A

/- The rows' frame: a law of two rows of posts. -/
import Derived.Test.YtaogmbiepbhmoaaRows
import Derived.Test.YtaogmbiepbhmoaaOpen
import Derived.Test.YtaogmbiepbhmoaaAx0
import Derived.WalkKit
import Derived.ProofKit
import Derived.OpenShut
import Derived.ShutString
import Derived.ChangeOld
import Derived.Below
import Derived.SizedLaws
namespace Go.Proofs.Ytaogmbiepbhmoaa.A
open Go.ChangeShapes Go.WideShapes Go.ChangeAt Go.RowKit ScOpen Go.Proofs.YtaogmbiepbhmoaaW.PrintWords
instance : Inhabited S54 := ⟨z54⟩
instance : Inhabited S37 := ⟨z37⟩
theorem own_ : ownKnob Try.prog.godebug = none := by kernel_rfl
theorem laidOut_ : laidOutB Try.prog = true := by kernel_rfl
theorem os9 : Opens Try.prog 9 Kd.string (fun s => s.size ≤ maxLen) := opens_string Try.underlying9 (by kernel_rfl)
theorem oi2 : Opens Try.prog 2 (Kd.int .i64) (fun n => (Lit.int .i64 n).wf = true) := opens_int Try.underlying2 (by kernel_rfl)
theorem oi3 : Opens Try.prog 3 (Kd.int .i64) (fun n => (Lit.int .i64 n).wf = true) := opens_int Try.underlying3 (by kernel_rfl)
theorem open54 : Opens Try.prog 54 k54 (fun s => s.f0.size ≤ maxLen ∧ s.f1.size ≤ maxLen ∧ (Lit.int .i64 s.f2).wf = true) :=
  (opens_struct (d := Kd.pair Kd.string (Kd.pair Kd.string (Kd.int .i64))) Try.underlying54 (by kernel_rfl)
    (FO_more (off2 := 1) rfl rfl os9 rfl (FO_more (off2 := 2) rfl rfl os9 rfl (FO_last rfl rfl oi2)))
    (fun x : S54 => (x.f0, x.f1, x.f2)) (fun p => ⟨p.1, p.2.1, p.2.2⟩) (fun _ => rfl)).mono fun _ h => h
theorem open35 : Opens Try.prog 35 (Kd.slice 54 k54) (fun l => ∀ x ∈ l, x.f0.size ≤ maxLen ∧ x.f1.size ≤ maxLen ∧ (Lit.int .i64 x.f2).wf = true) := opens_slice Try.underlying35 (by kernel_rfl) open54
theorem open37 : Opens Try.prog 37 k37 (fun s => (Lit.int .i64 s.f0).wf = true ∧ s.f1.size ≤ maxLen ∧ ∀ x ∈ s.f2, x.f0.size ≤ maxLen ∧ x.f1.size ≤ maxLen ∧ (Lit.int .i64 x.f2).wf = true) :=
  (opens_struct (d := Kd.pair (Kd.int .i64) (Kd.pair Kd.string (Kd.slice 54 k54))) Try.underlying37 (by kernel_rfl)
    (FO_more (off2 := 1) rfl rfl oi3 rfl (FO_more (off2 := 2) rfl rfl os9 rfl (FO_last rfl rfl open35)))
    (fun x : S37 => (x.f0, x.f1, x.f2)) (fun p => ⟨p.1, p.2.1, p.2.2⟩) (fun _ => rfl)).mono fun _ h => h
def GoodPosts (l : List S37) : Prop := ∀ s ∈ l, (Lit.int .i64 s.f0).wf = true ∧ s.f1.size ≤ maxLen ∧ ∀ x ∈ s.f2, x.f0.size ≤ maxLen ∧ x.f1.size ≤ maxLen ∧ (Lit.int .i64 x.f2).wf = true
theorem open22 : Opens Try.prog 22 (Kd.slice 37 k37) GoodPosts := opens_slice Try.underlying22 (by kernel_rfl) open37

/-- A row of posts that came in, opened. -/
theorem open_posts {H : Type} {enc : TypeId × Value → H} {w : World} {sp : Nat → Bool} {held : Bool} {base : Nat} {a : Option Addr} {n c : Nat} {d : DataW H} {p : List MemPlace} (h : DataW.Trod enc Try.prog w base sp held 22 (.slice a n c) d p) :
    ∃ l : List S37, l.length = n ∧ n ≤ c ∧ Kd.C k37 w a l.length l ∧ GoodPosts l := by
  obtain ⟨fuel, hf⟩ := h
  obtain ⟨l, ⟨A, c', e, hl, hC⟩, hg⟩ := open22.op hf
  simp [Value.cells] at e
  obtain ⟨rfl, rfl, rfl⟩ := e
  exact ⟨l, rfl, hl, hC, hg⟩

/-- What a law of two rows of posts owes: its walk. -/
def Walk2 (n : Nat) : Prop := ∀ (a0 : Option Addr) (c0 : Nat) (l0 : List S37) (a1 : Option Addr) (c1 : Nat) (l1 : List S37) (w : World), l0.length ≤ c0 → Kd.C k37 w a0 l0.length l0 → GoodPosts l0 → l1.length ≤ c1 → Kd.C k37 w a1 l1.length l1 → GoodPosts l1 →
  Calls Try.prog n #[.slice a0 l0.length c0, .slice a1 l1.length c1] w fun e w' => e = .returned (.bool true) ∧ Below w.heap.size w w'
end Go.Proofs.Ytaogmbiepbhmoaa.A

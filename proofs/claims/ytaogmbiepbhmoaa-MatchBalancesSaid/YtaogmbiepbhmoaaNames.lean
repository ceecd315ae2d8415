/- ledger.name and ledger.currency, of texts that are fine. -/
import Derived.Test.YtaogmbiepbhmoaaLays2
import Derived.Test.YtaogmbiepbhmoaaKit
import Derived.Test.YtaogmbiepbhmoaaAx0
namespace Go.Proofs.Ytaogmbiepbhmoaa.A
open Go.RowKit Go.Lib Go.Maps ScKit Go.Proofs.YtaogmbiepbhmoaaW.PrintWords

def oddName (b : Nat) : Bool := (decide (b < 97) || decide (122 < b)) && (decide (b < 48) || decide (57 < b)) && (!decide (b = 45)) && (!decide (b = 58))
def oddUnit (b : Nat) : Bool := decide (b < 65) || decide (90 < b)
theorem odd_name (w : World) : PredAt Try.prog 45 #[] encR oddName w := fun W b _ => by
  unfold FnGives
  by_cases h1 : b < 97 <;> by_cases h2 : 122 < b <;> by_cases h3 : b < 48 <;> by_cases h4 : 57 < b <;> by_cases h5 : b = 45 <;> by_cases h6 : b = 58
  all_goals first
    | (exfalso; omega)
    | (have z1 : (b : Int) < 97 ↔ b < 97 := by omega
       have z2 : (122 : Int) < (b : Int) ↔ 122 < b := by omega
       have z3 : (b : Int) < 48 ↔ b < 48 := by omega
       have z4 : (57 : Int) < (b : Int) ↔ 57 < b := by omega
       have z5 : (b : Int) = 45 ↔ b = 45 := by omega
       have z6 : (b : Int) = 58 ↔ b = 58 := by omega
       go_enter Try.func45, Try.ntmps45
       go_wp2
       go_ret
       exact ⟨by first | (simp [oddName, h1, h2, h3, h4, h5, h6]; done) | (simp [oddName, h1, h2, h3, h4, h5, h6]; omega), 0, rfl⟩)
theorem odd_unit (w : World) : PredAt Try.prog 47 #[] encR oddUnit w := fun W b _ => by
  unfold FnGives
  by_cases h1 : b < 65 <;> by_cases h2 : 90 < b
  all_goals first
    | (exfalso; omega)
    | (have z1 : (b : Int) < 65 ↔ b < 65 := by omega
       have z2 : (90 : Int) < (b : Int) ↔ 90 < b := by omega
       go_enter Try.func47, Try.ntmps47
       go_wp2
       go_ret
       exact ⟨by simp [oddUnit, h1, h2], 0, rfl⟩)
theorem enters45 : ∀ args w, (callFunc 45 args).run Try.prog w = .ok (.enter 45 args) w := enters_of Try.func45 (by kernel_rfl) rfl
theorem enters47 : ∀ args w, (callFunc 47 args).run Try.prog w = .ok (.enter 47 args) w := enters_of Try.func47 (by kernel_rfl) rfl
theorem idx_name (s : ByteArray) (w : World) : Calls Try.prog 46 #[.string s, .func (.func 45) #[] #[]] w fun e w' => e = .returned (.int .i64 (Lib.idxFunc oddName true s)) ∧ Below w.heap.size w w' :=
  Any.strings_IndexFunc Try.idxA 45 #[] enters45 oddName s w (odd_name w)
theorem idx_unit (s : ByteArray) (w : World) : Calls Try.prog 46 #[.string s, .func (.func 47) #[] #[]] w fun e w' => e = .returned (.int .i64 (Lib.idxFunc oddUnit true s)) ∧ Below w.heap.size w w' :=
  Any.strings_IndexFunc Try.idxA 47 #[] enters47 oddUnit s w (odd_unit w)
set_option maxHeartbeats 4000000 in
theorem name_calls (s : ByteArray) (h1 : 1 ≤ s.size) (h2 : s.size ≤ 32) (h : Lib.idxFunc oddName true s = -1) (w : World) : Calls Try.prog 31 #[.string s] w fun e w' => e = .returned (.bool true) ∧ Below w.heap.size w w' := by
  have h1' : decide ((1 : Int) ≤ (s.size : Int)) = true := by rw [decide_eq_true_eq]; omega
  have h2' : decide ((s.size : Int) ≤ 32) = true := by rw [decide_eq_true_eq]; omega
  go_enter Try.func31, Try.ntmps31
  go_wp2_with fail
  refine (idx_name s _).mono ?_
  rintro e w1 ⟨rfl, hB⟩
  rw [h]
  replace hB := Aside0.mk hB
  go_wp2_with fail
  go_ret
  exact ⟨rfl, hB.out⟩
set_option maxHeartbeats 4000000 in
theorem currency_calls (s : ByteArray) (h1 : s.size = 3) (h : Lib.idxFunc oddUnit true s = -1) (w : World) : Calls Try.prog 32 #[.string s] w fun e w' => e = .returned (.bool true) ∧ Below w.heap.size w w' := by
  go_enter Try.func32, Try.ntmps32
  go_wp2_with fail
  refine (idx_unit s _).mono ?_
  rintro e w1 ⟨rfl, hB⟩
  rw [h]
  replace hB := Aside0.mk hB
  go_wp2_with fail
  go_ret
  exact ⟨rfl, hB.out⟩

def EUR : ByteArray := ⟨#[69, 85, 82]⟩
def USD : ByteArray := ⟨#[85, 83, 68]⟩
def aY : ByteArray := ⟨#[121]⟩
def aV : ByteArray := ⟨#[118, 111, 115, 116, 114, 111, 58, 98]⟩
def aN : ByteArray := ⟨#[110, 111, 115, 116, 114, 111, 58, 97]⟩
def aS : ByteArray := ⟨#[115]⟩
def aO : ByteArray := ⟨#[110, 111, 110, 101]⟩
theorem fineY : Lib.idxFunc oddName true aY = -1 := by kernel_rfl
theorem fineV : Lib.idxFunc oddName true aV = -1 := by kernel_rfl
theorem fineN : Lib.idxFunc oddName true aN = -1 := by kernel_rfl
theorem fineS : Lib.idxFunc oddName true aS = -1 := by kernel_rfl
theorem fineE : Lib.idxFunc oddUnit true EUR = -1 := by kernel_rfl
end Go.Proofs.Ytaogmbiepbhmoaa.A

/- The document's digits are the library's: in plain Lean, out of the printed function. -/
import Derived.Test.YtaogmbiepbhmoaaDoorAx2
import Derived.Lib.ItoaNum
import Derived.Lib.ItoaLen
namespace Go.Proofs.YtaogmbiepbhmoaaDoor.A
open Go.RowKit Go.Lib Go.Proofs.YtaogmbiepbhmoaaDoorW.PrintWords
set_option linter.unusedVariables false

/-- A text out of its letters. -/
def tx (l : List UInt8) : ByteArray := ⟨l.toArray⟩
theorem tx_size (l : List UInt8) : (tx l).size = l.length := by simp [tx, ByteArray.size]
theorem tx_app (a b : List UInt8) : tx a ++ tx b = tx (a ++ b) := by
  apply ByteArray.ext
  simp [tx]
theorem tx_of (s : ByteArray) : tx s.data.toList = s := by
  apply ByteArray.ext
  simp [tx]
theorem oneNum (c : Int) : strOfNums [c] = tx [UInt8.ofNat c.toNat] := rfl
theorem dec_small {u : Nat} (h : u < 10) : decDigits u = [UInt8.ofNat (48 + u)] := by rw [decDigits, dif_pos h]
theorem dec_big {u : Nat} (h : ¬ u < 10) : decDigits u = decDigits (u / 10) ++ [UInt8.ofNat (48 + u % 10)] := by rw [decDigits, dif_neg h]

theorem td (u : Nat) : Int.tdiv (u : Int) 10 = ((u / 10 : Nat) : Int) := by rw [Int.tdiv_eq_ediv_of_nonneg (by omega)]; omega
theorem tm (u : Nat) : Int.tmod (u : Int) 10 = ((u % 10 : Nat) : Int) := by rw [Int.tmod_eq_emod_of_nonneg (by omega)]; omega
theorem tdn (u : Nat) : Int.tdiv (-(u : Int)) 10 = -((u / 10 : Nat) : Int) := by rw [Int.neg_tdiv, td]
theorem tmn (u : Nat) : Int.tmod (-(u : Int)) 10 = -((u % 10 : Nat) : Int) := by rw [Int.neg_tmod, tm]
theorem wr (u : Nat) (h : u ≤ 9223372036854775807) : wrap64 (u : Int) = (u : Int) := by unfold wrap64; omega
theorem wrn (u : Nat) (h : u ≤ 9223372036854775807) : wrap64 (-(u : Int)) = -(u : Int) := by unfold wrap64; omega
theorem up_dg (u : Nat) : wrap64 (48 + Int.tmod (u : Int) 10) % 256 = ((48 + u % 10 : Nat) : Int) := by
  rw [tm]
  have h : u % 10 < 10 := Nat.mod_lt _ (by decide)
  generalize u % 10 = r at h
  unfold wrap64; omega
theorem dn_dg (u : Nat) : wrap64 (48 - Int.tmod (-(u : Int)) 10) % 256 = ((48 + u % 10 : Nat) : Int) := by
  rw [tmn]
  have h : u % 10 < 10 := Nat.mod_lt _ (by decide)
  generalize u % 10 = r at h
  unfold wrap64; omega
theorem pow_div {u d : Nat} (h : u < 10 ^ (d + 1 + 1)) : u / 10 < 10 ^ (d + 1) := by
  rw [Nat.pow_succ] at h
  exact Nat.div_lt_of_lt_mul (by omega)

theorem up_at (d : Nat) : ∀ (u k : Nat) (s : List UInt8), u ≤ 9223372036854775807 → u < 10 ^ (d + 1) → d < k → s.length ≤ 100 - d → d ≤ 30 →
    supercargoref48_digits.l1 k (u : Int) (tx s) = some (tx ((if u < 10 then [] else decDigits (u / 10)) ++ s)) := by
  induction d with
  | zero =>
    intro u k s hu hd hk hs _
    obtain ⟨k, rfl⟩ : ∃ m, k = m + 1 := ⟨k - 1, by omega⟩
    simp only [supercargoref48_digits.l1]
    rw [if_neg (by omega), if_pos (by omega)]
    rfl
  | succ d ih =>
    intro u k s hu hd hk hs h30
    obtain ⟨k, rfl⟩ : ∃ m, k = m + 1 := ⟨k - 1, by omega⟩
    simp only [supercargoref48_digits.l1]
    by_cases h : u < 10
    · rw [if_neg (by omega), if_pos h]
      rfl
    · have hlt : u / 10 ≤ 9223372036854775807 := by omega
      rw [if_pos (by omega), td, wr _ hlt]
      simp only [Option.bind_some]
      rw [up_dg, oneNum, tx_app, Int.toNat_natCast, tx_size, tx_size]
      rw [if_pos (by simp; omega)]
      have hd' := pow_div hd
      rw [ih (u / 10) k _ (by omega) hd' (by omega) (by simp; omega) (by omega), if_neg h]
      by_cases h' : u / 10 < 10
      · rw [if_pos h', dec_small h', Nat.mod_eq_of_lt h']
        rfl
      · rw [if_neg h', dec_big h', List.append_assoc]

theorem down_at (d : Nat) : ∀ (u k : Nat) (s : List UInt8), 1 ≤ u → u ≤ 9223372036854775808 → u < 10 ^ (d + 1) → d < k → s.length ≤ 100 - d → d ≤ 30 →
    supercargoref48_digits.l0 k (-(u : Int)) (tx s) = some (tx (45 :: decDigits u ++ s)) := by
  have stop : ∀ (u k : Nat) (s : List UInt8), 1 ≤ u → u < 10 → s.length ≤ 100 → supercargoref48_digits.l0 (k + 1) (-(u : Int)) (tx s) = some (tx (45 :: decDigits u ++ s)) := by
    intro u k s h1 h hs
    simp only [supercargoref48_digits.l0]
    rw [if_neg (by omega)]
    simp only [Option.bind_some]
    rw [dn_dg, oneNum, Int.toNat_natCast, show (⟨#[45]⟩ : ByteArray) = tx [45] from rfl, tx_app, tx_app, tx_size, tx_size, tx_size]
    rw [if_pos (by simp), if_pos (by simp; omega), dec_small h, Nat.mod_eq_of_lt h]
    rfl
  induction d with
  | zero =>
    intro u k s h1 hu hd hk hs _
    obtain ⟨k, rfl⟩ : ∃ m, k = m + 1 := ⟨k - 1, by omega⟩
    exact stop u k s h1 (by omega) (by omega)
  | succ d ih =>
    intro u k s h1 hu hd hk hs h30
    obtain ⟨k, rfl⟩ : ∃ m, k = m + 1 := ⟨k - 1, by omega⟩
    by_cases h : u < 10
    · exact stop u k s h1 h (by omega)
    · have hlt : u / 10 ≤ 9223372036854775807 := by omega
      simp only [supercargoref48_digits.l0]
      rw [if_pos (by omega), tdn, wrn _ hlt]
      simp only [Option.bind_some]
      rw [dn_dg, oneNum, Int.toNat_natCast, tx_app, tx_size, tx_size]
      rw [if_pos (by simp; omega)]
      have hd' := pow_div hd
      rw [ih (u / 10) k _ (by omega) (by omega) hd' (by omega) (by simp; omega) (by omega), dec_big h]
      simp

theorem digits_tells (n : Int) (h0 : -9223372036854775808 ≤ n) (h1 : n ≤ 9223372036854775807) (k : Nat) (hk : 40 ≤ k) : supercargoref48_digits.f k n = some (tx (itoa n)) := by
  unfold supercargoref48_digits.f itoa
  by_cases h : n < 0
  · rw [if_pos h, if_pos h]
    have e : n = -((n.natAbs : Nat) : Int) := by omega
    rw [e, show (⟨#[]⟩ : ByteArray) = tx [] from rfl, down_at 20 n.natAbs k [] (by omega) (by omega) (by omega) (by omega) (by simp) (by omega)]
    simp
  · rw [if_neg h, if_neg h]
    obtain ⟨u, rfl⟩ : ∃ u : Nat, n = u := ⟨n.toNat, by omega⟩
    rw [up_dg, oneNum, Int.toNat_natCast, up_at 20 u k _ (by omega) (by omega) (by omega) (by simp) (by omega), Int.toNat_natCast]
    by_cases h' : u < 10
    · rw [if_pos h', dec_small h', Nat.mod_eq_of_lt h']
      rfl
    · rw [if_neg h', dec_big h']
theorem digits_ev (n : Int) (h0 : -9223372036854775808 ≤ n) (h1 : n ≤ 9223372036854775807) : Ev (fun k => supercargoref48_digits.f k n) (tx (itoa n)) := ⟨40, fun k hk => digits_tells n h0 h1 k hk⟩
end Go.Proofs.YtaogmbiepbhmoaaDoor.A

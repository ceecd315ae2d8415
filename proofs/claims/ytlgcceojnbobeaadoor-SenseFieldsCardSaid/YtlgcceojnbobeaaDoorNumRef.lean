/- The document's number of a text is the library's: in plain Lean, out of the printed functions. -/
import Derived.Test.YtlgcceojnbobeaaDoorNumber
import Derived.Test.YtlgcceojnbobeaaDoorAx7
import Derived.Lib.ItoaNum
import Derived.Lib.ItoaLen
namespace Go.Proofs.YtlgcceojnbobeaaDoor.A
open Go.RowKit Go.Lib Go.Proofs.YtlgcceojnbobeaaDoorW.PrintWords
set_option linter.unusedVariables false

theorem tx_app (a b : List UInt8) : tx a ++ tx b = tx (a ++ b) := by
  apply ByteArray.ext
  simp [tx]
theorem oneNum (c : Int) : strOfNums [c] = tx [UInt8.ofNat c.toNat] := rfl
theorem dec_small {u : Nat} (h : u < 10) : decDigits u = [UInt8.ofNat (48 + u)] := by rw [decDigits, dif_pos h]
theorem dec_big {u : Nat} (h : ¬ u < 10) : decDigits u = decDigits (u / 10) ++ [UInt8.ofNat (48 + u % 10)] := by rw [decDigits, dif_neg h]
theorem td (u : Nat) : Int.tdiv (u : Int) 10 = ((u / 10 : Nat) : Int) := by rw [Int.tdiv_eq_ediv_of_nonneg (by omega)]; omega
theorem tm (u : Nat) : Int.tmod (u : Int) 10 = ((u % 10 : Nat) : Int) := by rw [Int.tmod_eq_emod_of_nonneg (by omega)]; omega
theorem tdn (u : Nat) : Int.tdiv (-(u : Int)) 10 = -((u / 10 : Nat) : Int) := by rw [Int.neg_tdiv, td]
theorem tmn (u : Nat) : Int.tmod (-(u : Int)) 10 = -((u % 10 : Nat) : Int) := by rw [Int.neg_tmod, tm]
theorem wr (u : Nat) (h : u ≤ 9223372036854775807) : wrap64 (u : Int) = (u : Int) := by unfold wrap64; omega
theorem wrn (u : Nat) (h : u ≤ 9223372036854775807) : wrap64 (-(u : Int)) = -(u : Int) := by unfold wrap64; omega
theorem up_dg (u : Nat) : wrap64 (48 + Int.tmod (u : Int) 10) % 256 = ((48 + u % 10 : Nat) : Int) := by
  rw [tm]
  have h : u % 10 < 10 := Nat.mod_lt _ (by decide)
  generalize u % 10 = r at h
  unfold wrap64; omega
theorem dn_dg (u : Nat) : wrap64 (48 - Int.tmod (-(u : Int)) 10) % 256 = ((48 + u % 10 : Nat) : Int) := by
  rw [tmn]
  have h : u % 10 < 10 := Nat.mod_lt _ (by decide)
  generalize u % 10 = r at h
  unfold wrap64; omega
theorem pow_div {u d : Nat} (h : u < 10 ^ (d + 1 + 1)) : u / 10 < 10 ^ (d + 1) := by
  rw [Nat.pow_succ] at h
  exact Nat.div_lt_of_lt_mul (by omega)
theorem dec_len (d : Nat) : ∀ u, u < 10 ^ (d + 1) → (decDigits u).length ≤ d + 1 := by
  induction d with
  | zero => intro u h; rw [dec_small (by omega)]; simp
  | succ d ih =>
    intro u h
    by_cases h' : u < 10
    · rw [dec_small h']; simp
    · rw [dec_big h']
      have := ih (u / 10) (pow_div h)
      simp; omega
theorem dec_dig (d : Nat) : ∀ u, u < 10 ^ (d + 1) → ∀ c ∈ decDigits u, 48 ≤ c.toNat ∧ c.toNat ≤ 57 := by
  have one : ∀ v, v < 10 → 48 ≤ (UInt8.ofNat (48 + v)).toNat ∧ (UInt8.ofNat (48 + v)).toNat ≤ 57 := by
    intro v hv
    rw [UInt8.toNat_ofNat']
    omega
  induction d with
  | zero =>
    intro u h c hc
    rw [dec_small (by omega)] at hc
    obtain rfl := List.mem_singleton.1 hc
    exact one u (by omega)
  | succ d ih =>
    intro u h c hc
    by_cases h' : u < 10
    · rw [dec_small h'] at hc
      obtain rfl := List.mem_singleton.1 hc
      exact one u h'
    · rw [dec_big h', List.mem_append] at hc
      rcases hc with hc | hc
      · exact ih _ (pow_div h) c hc
      · obtain rfl := List.mem_singleton.1 hc
        exact one _ (Nat.mod_lt _ (by decide))
theorem dec_ne (u : Nat) : decDigits u ≠ [] := by
  by_cases h : u < 10
  · rw [dec_small h]; simp
  · rw [dec_big h]; simp

/-! ### Digits -/
theorem digits_up (d : Nat) : ∀ (u k : Nat), u ≤ 9223372036854775807 → u < 10 ^ (d + 1) → d < k → d ≤ 30 → supercargoref05_Digits.f k (u : Int) = some (tx (decDigits u)) := by
  have stop : ∀ (u k : Nat), u < 10 → supercargoref05_Digits.f (k + 1) (u : Int) = some (tx (decDigits u)) := by
    intro u k h
    simp only [supercargoref05_Digits.f]
    rw [if_neg (by omega), if_pos (by omega), dec_small h, oneNum, show (wrap64 (48 + (u : Int)) % 256) = ((48 + u : Nat) : Int) by unfold wrap64; omega, Int.toNat_natCast]
  induction d with
  | zero =>
    intro u k hu hd hk _
    obtain ⟨k, rfl⟩ : ∃ m, k = m + 1 := ⟨k - 1, by omega⟩
    exact stop u k (by omega)
  | succ d ih =>
    intro u k hu hd hk h30
    obtain ⟨k, rfl⟩ : ∃ m, k = m + 1 := ⟨k - 1, by omega⟩
    by_cases h : u < 10
    · exact stop u k h
    · have hl := dec_len d (u / 10) (pow_div hd)
      simp only [supercargoref05_Digits.f]
      rw [if_neg (by omega), if_neg (by omega), td, wr _ (by omega), ih (u / 10) k (by omega) (pow_div hd) (by omega) (by omega)]
      simp only [Option.bind_some]
      rw [up_dg, oneNum, tx_app, Int.toNat_natCast, tx_size, tx_size, if_pos (by simp; omega), dec_big h]
theorem digits_dn (d : Nat) : ∀ (u k : Nat), 1 ≤ u → u ≤ 9223372036854775808 → u < 10 ^ (d + 1) → d < k → d ≤ 30 → supercargoref05_Digits.f k (-(u : Int)) = some (tx (45 :: decDigits u)) := by
  have stop : ∀ (u k : Nat), 1 ≤ u → u < 10 → supercargoref05_Digits.f (k + 1) (-(u : Int)) = some (tx (45 :: decDigits u)) := by
    intro u k h1 h
    simp only [supercargoref05_Digits.f]
    rw [if_pos (by omega), if_pos (by omega)]
    simp only [Option.bind_some]
    rw [dec_small h, oneNum, show (wrap64 (48 - (-(u : Int))) % 256) = ((48 + u : Nat) : Int) by unfold wrap64; omega, Int.toNat_natCast, tx_size, if_pos (by simp), show (⟨#[45]⟩ : ByteArray) = tx [45] from rfl, tx_app]
    rfl
  induction d with
  | zero =>
    intro u k h1 hu hd hk _
    obtain ⟨k, rfl⟩ : ∃ m, k = m + 1 := ⟨k - 1, by omega⟩
    exact stop u k h1 (by omega)
  | succ d ih =>
    intro u k h1 hu hd hk h30
    obtain ⟨k, rfl⟩ : ∃ m, k = m + 1 := ⟨k - 1, by omega⟩
    by_cases h : u < 10
    · exact stop u k h1 h
    · have hl := dec_len d (u / 10) (pow_div hd)
      simp only [supercargoref05_Digits.f]
      rw [if_pos (by omega), if_neg (by omega), tdn, wrn _ (by omega), ih (u / 10) k (by omega) (by omega) (pow_div hd) (by omega) (by omega)]
      simp only [Option.bind_some]
      rw [dn_dg, oneNum, tx_app, Int.toNat_natCast, tx_size, tx_size, if_pos (by simp; omega), dec_big h]
      rfl
theorem digits_tells (n : Int) (h0 : -9223372036854775808 ≤ n) (h1 : n ≤ 9223372036854775807) (k : Nat) (hk : 40 ≤ k) : supercargoref05_Digits.f k n = some (tx (itoa n)) := by
  unfold itoa
  by_cases h : n < 0
  · rw [if_pos h]
    have e : n = -((n.natAbs : Nat) : Int) := by omega
    rw [e, digits_dn 20 n.natAbs k (by omega) (by omega) (by omega) (by omega) (by omega)]
    simp
  · rw [if_neg h]
    obtain ⟨u, rfl⟩ : ∃ u : Nat, n = u := ⟨n.toNat, by omega⟩
    rw [digits_up 20 u k (by omega) (by omega) (by omega) (by omega), Int.toNat_natCast]
theorem digits_ev (n : Int) (h0 : -9223372036854775808 ≤ n) (h1 : n ≤ 9223372036854775807) : Ev (fun k => supercargoref05_Digits.f k n) (tx (itoa n)) := ⟨40, fun k hk => digits_tells n h0 h1 k hk⟩

/-! ### The number that letters spell -/
def loopP : Nat → List UInt8 → Option Nat
  | a, [] => some a
  | a, c :: r => if c.toNat < 48 ∨ 57 < c.toNat ∨ 461168601842738790 < a then none else loopP (10 * a + (c.toNat - 48)) r
theorem loopP_app (l : List UInt8) : ∀ (a : Nat) (c : UInt8), loopP a (l ++ [c]) = (loopP a l).bind fun b => loopP b [c] := by
  induction l with
  | nil => intro a c; rfl
  | cons x l ih =>
    intro a c
    simp only [List.cons_append, loopP]
    split
    · rfl
    · rw [ih]
      rfl
theorem loopP_dec (d : Nat) : ∀ u, u < 10 ^ (d + 1) → u ≤ 4611686018427387904 → loopP 0 (decDigits u) = some u := by
  have one : ∀ a v, v < 10 → a ≤ 461168601842738790 → loopP a [UInt8.ofNat (48 + v)] = some (10 * a + v) := by
    intro a v hv ha
    have e : (UInt8.ofNat (48 + v)).toNat = 48 + v := by rw [UInt8.toNat_ofNat']; omega
    simp only [loopP]
    rw [e, if_neg (by omega)]
    congr 1
    omega
  induction d with
  | zero =>
    intro u h hu
    rw [dec_small (by omega), one 0 u (by omega) (by omega)]
    simp
  | succ d ih =>
    intro u h hu
    by_cases h' : u < 10
    · rw [dec_small h', one 0 u (by omega) (by omega)]
      simp
    · rw [dec_big h', loopP_app, ih _ (pow_div h) (by omega), Option.bind_some, one _ _ (Nat.mod_lt _ (by decide)) (by omega)]
      congr 1
      omega
theorem parseM_app (M : Nat) (l : List UInt8) : ∀ (a b : Nat) (c : UInt8), parseUintM M a l = .ok b → parseUintM M a (l ++ [c]) = parseUintM M b [c] := by
  induction l with
  | nil => intro a b c h; injection h with h; subst h; rfl
  | cons x l ih =>
    intro a b c h
    simp only [parseUintM] at h
    simp only [List.cons_append, parseUintM]
    split at h
    · rename_i h1
      rw [if_pos h1]
      split at h
      · cases h
      · rename_i h2
        rw [if_neg h2]
        split at h
        · cases h
        · rename_i h3
          rw [if_neg h3, ih _ _ _ h]
          rfl
    · cases h
theorem parseM_dec (d : Nat) : ∀ u, u < 10 ^ (d + 1) → u ≤ 4611686018427387904 → parseUintM 18446744073709551615 0 (decDigits u) = .ok u := by
  have one : ∀ a v, v < 10 → a ≤ 461168601842738790 → parseUintM 18446744073709551615 a [UInt8.ofNat (48 + v)] = .ok (10 * a + v) := by
    intro a v hv ha
    have e : (UInt8.ofNat (48 + v)).toNat = 48 + v := by rw [UInt8.toNat_ofNat']; omega
    simp only [parseUintM]
    rw [e, if_pos (by omega), if_neg (by omega), if_neg (by omega)]
    congr 1
    omega
  induction d with
  | zero =>
    intro u h hu
    rw [dec_small (by omega), one 0 u (by omega) (by omega)]
    simp
  | succ d ih =>
    intro u h hu
    by_cases h' : u < 10
    · rw [dec_small h', one 0 u (by omega) (by omega)]
      simp
    · rw [dec_big h', parseM_app _ _ _ _ _ (ih _ (pow_div h) (by omega)), one _ _ (Nat.mod_lt _ (by decide)) (by omega)]
      congr 1
      omega
theorem parse_dec (u : Nat) (hu : u ≤ 4611686018427387904) : parseUintB 64 (decDigits u) = .ok u := by
  unfold parseUintB
  rw [if_neg (dec_ne u)]
  exact parseM_dec 20 u (by omega) hu
theorem parse_itoa (v : Int) (h0 : -4611686018427387904 ≤ v) (h1 : v ≤ 4611686018427387904) : parseIntB 64 (itoa v) = .ok v := by
  unfold itoa
  split
  · rename_i h
    unfold parseIntB
    simp only
    rw [if_pos (Or.inr (by decide)), parse_dec v.natAbs (by omega)]
    simp only
    rw [if_neg (by simp), if_neg (by have e : (2 : Nat) ^ (64 - 1) = 9223372036854775808 := by decide
                                     rw [e]; omega), if_pos (by decide)]
    congr 1
    omega
  · rename_i h
    obtain ⟨u, rfl⟩ : ∃ u : Nat, v = u := ⟨v.toNat, by omega⟩
    rw [Int.toNat_natCast]
    rcases e : decDigits u with _ | ⟨c, r⟩
    · exact absurd e (dec_ne u)
    · have hc := dec_dig 20 u (by omega) c (by rw [e]; simp)
      have hp := parse_dec u (by omega)
      rw [e] at hp
      unfold parseIntB
      simp only
      rw [if_neg (by omega), hp]
      simp only
      rw [if_neg (by have e : (2 : Nat) ^ (64 - 1) = 9223372036854775808 := by decide
                     rw [e]; omega), if_neg (by omega), if_neg (by omega)]
/-- The document's number of a text. -/
def endP (s : List UInt8) (v : Int) : Option Int := if v ≤ 4611686018427387904 ∧ -4611686018427387904 ≤ v ∧ itoa v = s then some v else none
def refN (s : List UInt8) : Option Int :=
  if s = [] ∨ 20 < s.length then none
  else if s.head? = some 45 then (loopP 0 (s.drop 1)).bind fun a => endP s (-(a : Int)) else (loopP 0 s).bind fun a => endP s a
theorem ref_num (s : List UInt8) : refN s = numP s := by
  have back : ∀ v : Int, -4611686018427387904 ≤ v → v ≤ 4611686018427387904 → itoa v = s → numP s = some v := by
    intro v h0 h1 h
    unfold numP
    rw [← h, parse_itoa v h0 h1]
    simp only
    rw [if_pos ⟨h0, h1, trivial⟩]
  have fwd : ∀ v : Int, -4611686018427387904 ≤ v → v ≤ 4611686018427387904 → itoa v = s → refN s = some v := by
    intro v h0 h1 h
    unfold refN
    by_cases hn : v < 0
    · have e : itoa v = 45 :: decDigits v.natAbs := by unfold itoa; rw [if_pos hn]
      have hl := dec_len 18 v.natAbs (by omega)
      rw [e] at h
      rw [if_neg (by subst h; simp; omega), if_pos (by subst h; rfl), ← h]
      simp only [List.drop_succ_cons, List.drop_zero]
      rw [loopP_dec 20 v.natAbs (by omega) (by omega), Option.bind_some]
      unfold endP
      rw [if_pos ⟨by omega, by omega, by rw [← e]; congr 1; omega⟩]
      congr 1
      omega
    · obtain ⟨u, rfl⟩ : ∃ u : Nat, v = u := ⟨v.toNat, by omega⟩
      have e : itoa (u : Int) = decDigits u := by unfold itoa; rw [if_neg hn, Int.toNat_natCast]
      have hl := dec_len 18 u (by omega)
      rw [e] at h
      have hd := dec_dig 20 u (by omega)
      rw [h] at hd hl
      have hne : s ≠ [] := by rw [← h]; exact dec_ne u
      rw [if_neg (by rintro (h2 | h2); exact hne h2; omega), if_neg (by
        intro h2
        cases s with
        | nil => cases h2
        | cons c r =>
          injection h2 with h2
          have := hd c (by simp)
          rw [h2] at this
          exact absurd this.1 (by decide))]
      have hl2 := loopP_dec 20 u (by omega) (by omega)
      rw [h] at hl2
      rw [hl2, Option.bind_some]
      unfold endP
      rw [if_pos ⟨by omega, by omega, by rw [e, h]⟩]
  cases hr : refN s with
  | some v =>
    symm
    have hv : v ≤ 4611686018427387904 ∧ -4611686018427387904 ≤ v ∧ itoa v = s := by
      unfold refN at hr
      split at hr
      · cases hr
      · split at hr
        · cases hl : loopP 0 (s.drop 1) with
          | none => rw [hl] at hr; cases hr
          | some a =>
            rw [hl, Option.bind_some] at hr
            unfold endP at hr
            split at hr
            · rename_i h; injection hr with hr; subst hr; exact h
            · cases hr
        · cases hl : loopP 0 s with
          | none => rw [hl] at hr; cases hr
          | some a =>
            rw [hl, Option.bind_some] at hr
            unfold endP at hr
            split at hr
            · rename_i h; injection hr with hr; subst hr; exact h
            · cases hr
    exact back v hv.2.1 hv.1 hv.2.2
  | none =>
    cases hn : numP s with
    | none => rfl
    | some v =>
      exfalso
      unfold numP at hn
      split at hn
      · split at hn
        · rename_i h
          injection hn with hn
          subst hn
          rw [fwd _ h.1 h.2.1 h.2.2] at hr
          cases hr
        · cases hn
      · cases hn

/-! ### Number, printed -/
def outN (o : Option Int) : Int × Bool := match o with | some v => (v, true) | none => (0, false)
theorem bt_get (x : ByteArray) (i : Nat) (h : i < x.size) : bt x (i : Int) = (x.data.toList[i]'(by simpa using h)).toNat := by
  unfold bt
  rw [dif_pos (by simpa using h)]
  simp [ByteArray.getElem_eq_getElem_data]
theorem num_end (x : ByteArray) (v : Int) (h0 : -9223372036854775808 ≤ v) (h1 : v ≤ 9223372036854775807) :
    Ev (fun k => if v > 4611686018427387904 then (some ((0 : Int), false)) else (if v < (-4611686018427387904) then (some (0, false)) else ((supercargoref05_Digits.f k v).bind fun t => (if t.toList = x.toList then (some (v, true)) else (some (0, false)))))) (outN (endP x.data.toList v)) := by
  by_cases c1 : v > 4611686018427387904
  · rw [show endP x.data.toList v = none from if_neg (by omega)]
    exact Ev.congr (fun k => by rw [if_pos c1]; rfl) (Ev.now _)
  · by_cases c2 : v < -4611686018427387904
    · rw [show endP x.data.toList v = none from if_neg (by omega)]
      exact Ev.congr (fun k => by rw [if_neg c1, if_pos c2]; rfl) (Ev.now _)
    · refine Ev.congr (fun k => by rw [if_neg c1, if_neg c2]) (Ev.bind (digits_ev v h0 h1) ?_)
      by_cases c3 : itoa v = x.data.toList
      · rw [show endP x.data.toList v = some v from if_pos ⟨by omega, by omega, c3⟩]
        exact Ev.congr (fun k => by rw [if_pos (by rw [ByteArray.toList_eq, ByteArray.toList_eq, tl_tx, c3])]; rfl) (Ev.now _)
      · rw [show endP x.data.toList v = none from if_neg (fun h => c3 h.2.2)]
        exact Ev.congr (fun k => by rw [if_neg (by rw [ByteArray.toList_eq, ByteArray.toList_eq, tl_tx]; exact c3)]; rfl) (Ev.now _)
theorem num_loop (x : ByteArray) (hx : x.size ≤ 1000) (neg : Bool) (suf : List UInt8) : ∀ (i a : Nat), x.data.toList.drop i = suf → i ≤ x.size → a ≤ 4611686018427387909 →
    Ev (fun k => supercargoref05_Number.l0 k x (a : Int) (if neg then 1 else 0) (i : Int)) (outN ((loopP a suf).bind fun b => endP x.data.toList (if neg then -(b : Int) else b))) := by
  induction suf with
  | nil =>
    intro i a h hi ha
    have hl : x.size ≤ i := by have := List.drop_eq_nil_iff.1 h; simpa using this
    simp only [loopP, Option.bind_some]
    cases neg with
    | true =>
      refine Ev.step (fun k => ?_) (num_end x (-(a : Int)) (by omega) (by omega))
      simp only [supercargoref05_Number.l0]
      rw [if_neg (by omega), if_pos (by rfl), wrn a (by omega)]
    | false =>
      refine Ev.step (fun k => ?_) (num_end x (a : Int) (by omega) (by omega))
      simp only [supercargoref05_Number.l0]
      rw [if_neg (by omega), if_neg (by decide)]
  | cons c suf ih =>
    intro i a h hi ha
    have hlt : i < x.size := by
      rcases Nat.lt_or_ge i x.size with h1 | h1
      · exact h1
      · rw [List.drop_eq_nil_of_le (by simpa using h1)] at h; cases h
    rw [List.drop_eq_getElem_cons (by simpa using hlt)] at h
    injection h with h2 h3
    have hb := bt_get x i hlt
    rw [h2] at hb
    have hcr : c.toNat < 256 := c.toNat_lt
    by_cases c1 : c.toNat < 48
    · rw [show loopP a (c :: suf) = none from if_pos (by omega)]
      refine Ev.step (f := fun _ => some (0, false)) (fun k => ?_) (Ev.now _)
      simp only [supercargoref05_Number.l0]
      rw [if_pos (by omega), if_pos (by omega), hb, if_pos (by omega)]
    · by_cases c2 : 57 < c.toNat
      · rw [show loopP a (c :: suf) = none from if_pos (by omega)]
        refine Ev.step (f := fun _ => some (0, false)) (fun k => ?_) (Ev.now _)
        simp only [supercargoref05_Number.l0]
        rw [if_pos (by omega), if_pos (by omega), hb, if_neg (by omega), if_pos (by omega)]
      · by_cases c3 : 461168601842738790 < a
        · rw [show loopP a (c :: suf) = none from if_pos (by omega)]
          refine Ev.step (f := fun _ => some (0, false)) (fun k => ?_) (Ev.now _)
          simp only [supercargoref05_Number.l0]
          rw [if_pos (by omega), if_pos (by omega), hb, if_neg (by omega), if_neg (by omega), if_pos (by omega)]
        · rw [show loopP a (c :: suf) = loopP (10 * a + (c.toNat - 48)) suf from if_neg (by omega)]
          refine Ev.step (fun k => ?_) (ih (i + 1) (10 * a + (c.toNat - 48)) h3 (by omega) (by omega))
          simp only [supercargoref05_Number.l0]
          rw [if_pos (by omega), if_pos (by omega), hb, if_neg (by omega), if_neg (by omega), if_neg (by omega)]
          congr 1
          · unfold wrap64; omega
          · unfold wrap64; omega
theorem number_ev (x : ByteArray) (hx : x.size ≤ 1000) : Ev (fun k => supercargoref05_Number.f k x) (outN (numP x.data.toList)) := by
  rw [← ref_num]
  unfold refN supercargoref05_Number.f
  have hsz : x.data.toList.length = x.size := by simp
  by_cases c1 : x.data.toList = []
  · rw [if_pos (.inl c1)]
    refine Ev.congr (fun k => by rw [if_pos (by rw [ByteArray.toList_eq]; exact c1)]) ?_
    refine Ev.step (f := fun _ => some (0, false)) (fun k => ?_) (Ev.now _)
    simp only [supercargoref05_Number.j0]
    rw [if_pos trivial]
  · refine Ev.congr (fun k => by rw [if_neg (by rw [ByteArray.toList_eq]; exact c1)]) ?_
    by_cases c2 : 20 < x.size
    · rw [if_pos (.inr (by omega))]
      refine Ev.step (f := fun _ => some (0, false)) (fun k => ?_) (Ev.now _)
      simp only [supercargoref05_Number.j0]
      rw [if_pos (decide_eq_true (by omega))]
    · rw [if_neg (by rintro (h | h); exact c1 h; omega)]
      have hpos : 0 < x.size := by
        rcases Nat.eq_zero_or_pos x.size with h | h
        · exact absurd (List.eq_nil_of_length_eq_zero (by omega)) c1
        · exact h
      have hb := bt_get x 0 hpos
      obtain ⟨c, r, hcr⟩ : ∃ c r, x.data.toList = c :: r := by
        cases h : x.data.toList with
        | nil => exact absurd h c1
        | cons c r => exact ⟨c, r, rfl⟩
      have hb' : bt x 0 = (c.toNat : Int) := by
        have : bt x ((0 : Nat) : Int) = (c.toNat : Int) := by rw [hb]; simp [hcr]
        exact this
      by_cases c3 : c = 45
      · rw [if_pos (by rw [hcr]; simp [c3])]
        have hl := num_loop x hx true (x.data.toList.drop 1) 1 0 rfl (by omega) (by omega)
        refine Ev.step (fun k => ?_) (Ev.step (g := fun k => supercargoref05_Number.j1 k x 0 1) (fun k => ?_) hl)
        · simp only [supercargoref05_Number.j0]
          rw [if_neg (by simp; omega), if_pos (by omega), hb', if_pos (by rw [c3]; rfl)]
        · simp only [supercargoref05_Number.j1]
          rfl
      · rw [if_neg (by rw [hcr]; simpa using c3)]
        have hl := num_loop x hx false (x.data.toList.drop 0) 0 0 rfl (by omega) (by omega)
        refine Ev.step (fun k => ?_) (Ev.step (g := fun k => supercargoref05_Number.j1 k x 0 0) (fun k => ?_) hl)
        · simp only [supercargoref05_Number.j0]
          rw [if_neg (by simp; omega), if_pos (by omega), hb', if_neg (by
            intro h
            apply c3
            apply UInt8.toNat_inj.1
            have h2 : (45 : UInt8).toNat = 45 := by decide
            omega)]
        · simp only [supercargoref05_Number.j1]
          rfl
/-! ### Value, printed -/
theorem value_ev (x : ByteArray) (hx : x.size ≤ 1000) (kind : Int) : Ev (fun k => supercargoref29_Value.f k x kind) (valP x.data.toList kind) := by
  unfold supercargoref29_Value.f
  have hn := number_ev x hx
  have rest : (kind = 1 ∨ kind = 2) → Ev (fun k => supercargoref29_Value.j0 k x kind false) (valP x.data.toList kind) := by
    intro hk
    unfold valP
    generalize numP x.data.toList = np at hn
    refine Ev.step (f := fun k => (supercargoref05_Number.f k x).bind fun bt179 => (if bt179.2 = true then (if bt179.1 < 0 then (some (0, false)) else (if kind = 2 then (if bt179.1 > 1048576 then (some (0, false)) else (some (bt179.1, true))) else (some (bt179.1, true)))) else (some (0, false)))) (fun k => ?_) (Ev.bind hn ?_)
    · simp only [supercargoref29_Value.j0]
      rw [if_neg (by decide)]
    · cases np with
      | none => exact Ev.congr (fun k => by rw [if_neg (by decide)]; rfl) (Ev.now _)
      | some n =>
        refine Ev.congr (fun k => if_pos rfl) ?_
        show Ev (fun k => if n < 0 then (some (0, false)) else (if kind = 2 then (if n > 1048576 then (some (0, false)) else (some (n, true))) else (some (n, true)))) (valQ (some n) kind)
        by_cases c1 : n < 0
        · rw [show valQ (some n) kind = (0, false) from if_neg (by omega)]
          exact Ev.congr (fun k => by rw [if_pos c1]) (Ev.now _)
        · rcases hk with rfl | rfl
          · rw [show valQ (some n) 1 = (n, true) from if_pos (by omega)]
            exact Ev.congr (fun k => by rw [if_neg c1, if_neg (by decide)]) (Ev.now _)
          · by_cases c2 : n > 1048576
            · rw [show valQ (some n) 2 = (0, false) from if_neg (by omega)]
              exact Ev.congr (fun k => by rw [if_neg c1, if_pos rfl, if_pos c2]) (Ev.now _)
            · rw [show valQ (some n) 2 = (n, true) from if_pos (by omega)]
              exact Ev.congr (fun k => by rw [if_neg c1, if_pos rfl, if_neg c2]) (Ev.now _)
  by_cases c1 : kind = 1
  · exact Ev.congr (fun k => by rw [if_pos c1]) (rest (.inl c1))
  · by_cases c2 : kind = 2
    · exact Ev.congr (fun k => by rw [if_neg c1, show (kind != 2) = false by simpa using c2]) (rest (.inr c2))
    · have e : valP x.data.toList kind = (0, false) := by
        unfold valP valQ
        split
        · rw [if_neg (by omega)]
        · rfl
      rw [e]
      refine Ev.congr (fun k => by rw [if_neg c1, show (kind != 2) = true by simpa using c2]) ?_
      refine Ev.step (f := fun _ => some (0, false)) (fun k => ?_) (Ev.now _)
      simp only [supercargoref29_Value.j0]
      rw [if_pos trivial]
end Go.Proofs.YtlgcceojnbobeaaDoor.A

/- match.Balanced walked: what is owed and booked against what is in the mail. -/
import Derived.Test.YtaogmbiepbhmoaaLed
namespace Go.Proofs.Ytaogmbiepbhmoaa.A
open Go.RowKit Go.Lib Go.Maps ScKit Go.Proofs.YtaogmbiepbhmoaaW.PrintWords Go.Proofs.YtaogmbiepbhmoaaW.PrintLast Go.Proofs.YtaogmbiepbhmoaaW.PrintMore
set_option linter.unusedVariables false

/-- A letter of a kind and a sum: its cells. -/
def lett (q : Int × Int) : List Value := [.string ⟨#[]⟩, .string ⟨#[]⟩, .int .i64 0, .int .i64 q.1, .int .i64 0, .string ⟨#[]⟩, .string ⟨#[]⟩, .string ⟨#[]⟩, .int .i64 0, .int .i64 0, .string EUR, .int .i64 q.2, .slice none 0 0, .slice none 0 0]
/-- What is remitted by letters. -/
def sumL : List (Int × Int) → Int
  | [] => 0
  | q :: l => (if q.1 = 27 then q.2 else 0) + sumL l
theorem sumL_append (a b : List (Int × Int)) : sumL (a ++ b) = sumL a + sumL b := by
  induction a with
  | nil => simp [sumL]
  | cons q a ih => simp only [List.cons_append, sumL, ih]; omega
theorem sumL_bound (ms : List (Int × Int)) (h : ∀ q ∈ ms, 0 ≤ q.2 ∧ q.2 ≤ 8589934592) : 0 ≤ sumL ms ∧ sumL ms ≤ 8589934592 * ms.length := by
  induction ms with
  | nil => simp [sumL]
  | cons q a ih =>
    obtain ⟨h1, h2⟩ := ih (fun x hx => h x (List.mem_cons_of_mem _ hx))
    obtain ⟨h3, h4⟩ := h q List.mem_cons_self
    simp only [sumL, List.length_cons]
    split <;> omega
theorem at_lett {w : World} {A : Option Addr} {n : Nat} {ms : List (Int × Int)} (h : Kd.C (Kd.raw 14) w A n (ms.map lett)) (k : Nat) (hk : k < ms.length) : ∃ ad, A = some ad ∧ ∀ (j : Nat) (u : Value), (lett ms[k])[j]? = some u → w.cell? (ad.add (k * 14 + j)) = some u := by
  have hn : n = ms.length := by simpa using h.1.symm
  obtain ⟨ad, c, e, _, hK, hc0⟩ := Kd.C_get h [] (k : Int) (by omega) (by omega)
  obtain ⟨hc, _⟩ := hK
  refine ⟨ad, e, fun j u hu => ?_⟩
  have he : (ms.map lett).getD (Int.toNat (k : Int)) [] = lett ms[k] := by simp [hk]
  rw [he] at hc
  rw [← hc] at hu
  have h9 := hc0 j u hu
  rw [Int.toNat_natCast] at h9
  exact h9

set_option maxHeartbeats 8000000 in
set_option maxRecDepth 100000 in
theorem balanced_calls (w : World) (pa pb : Addr) (nostro vostro cur : ByteArray) (owed booked : Int) (oa ob : Bool) (X : Option Addr) (cx : Nat) (ms : List (Int × Int)) (hX : Kd.C (Kd.raw 14) w X ms.length (ms.map lett)) (hcur : ms = [] ∨ cur = EUR) (hms : ∀ q ∈ ms, 0 ≤ q.2 ∧ q.2 ≤ 8589934592) (hl : ms.length ≤ 40) (ho : -1099511627776 ≤ owed ∧ owed ≤ 1099511627776) (hb : -1099511627776 ≤ booked ∧ booked ≤ 1099511627776)
    (hA : ∀ w1, Below w.heap.size w w1 → Calls Try.prog 37 #[.pointer (some pa), .string vostro, .string cur] w1 fun e w' => e = .returned (.tuple #[.int .i64 owed, .bool oa]) ∧ Below w1.heap.size w1 w')
    (hB : ∀ w1, Below w.heap.size w w1 → Calls Try.prog 37 #[.pointer (some pb), .string nostro, .string cur] w1 fun e w' => e = .returned (.tuple #[.int .i64 booked, .bool ob]) ∧ Below w1.heap.size w1 w') :
    Calls Try.prog 19 #[.pointer (some pa), .pointer (some pb), .string nostro, .string vostro, .slice X ms.length cx, .string cur] w fun e w' => e = .returned (.bool (decide (owed + booked = sumL ms))) ∧ Below w.heap.size w w' := by
  have HX := Aside0.mk hX
  have HA := Aside0.mk hA
  have HB := Aside0.mk hB
  have HM := Aside0.mk hms
  clear hX hA hB hms
  go_enter Try.func19, Try.ntmps19
  go_wp2_with fail
  refine (HA.out _ (Below.refl _ _)).mono ?_
  rintro e w1 ⟨rfl, hB1⟩
  have B1 := Aside0.mk hB1
  clear hB1
  go_wp2_with fail
  refine (HB.out _ B1.out).mono ?_
  rintro e w2 ⟨rfl, hB2⟩
  have B2 := Aside0.mk (below_step B1.out hB2)
  clear hB2 B1
  go_wp2_with fail
  go_loopw [17, 36] (fun s i wr => ∃ k : Nat, k ≤ ms.length ∧ i = .int .i64 k ∧ s = .int .i64 (sumL (ms.take k)) ∧ Aside0 (Below w.heap.size w wr))
    (fun _ i _ => ms.length - (intOf i).toNat)
  case atStart => exact ⟨0, Nat.zero_le _, rfl, rfl, B2⟩
  case round =>
    obtain ⟨k, hk, rfl, rfl, BB⟩ := hrel
    by_cases hlt : k < ms.length
    · obtain ⟨ad, rfl, hc⟩ := at_lett HX.out k hlt
      have hcur : cur = EUR := by
        rcases hcur with h | h
        · rw [h] at hlt; simp at hlt
        · exact h
      subst hcur
      obtain ⟨q, hq⟩ : ∃ q, q = ms[k] := ⟨_, rfl⟩
      have hq0 : 0 ≤ q.2 ∧ q.2 ≤ 8589934592 := HM.out q (by rw [hq]; exact List.getElem_mem hlt)
      have hsb := sumL_bound (ms.take k) (fun x hx => HM.out x (List.mem_of_mem_take hx))
      have hsn : Aside0 (sumL (ms.take (k + 1)) = sumL (ms.take k) + (if q.1 = 27 then q.2 else 0)) := ⟨by rw [List.take_succ_eq_append_getElem hlt, sumL_append, hq]; simp [sumL]⟩
      have hlk : (ms.take k).length ≤ 40 := by rw [List.length_take]; omega
      rw [← hq] at hc
      have hcc : ∀ (j : Nat) (u : Value), 0 < j → (lett q)[j]? = some u → wr.cell? ⟨(ad.add (k * 14)).block, (ad.add (k * 14)).off + j, none⟩ = some u := fun j u hj hu => by
        rw [← add_field _ _ j hj]; exact cellB BB.out (hc j u hu)
      have c0 : wr.cell? (ad.add (k * 14)) = some (.string ⟨#[]⟩) := cellB BB.out (hc 0 _ rfl)
      have c1 := hcc 1 _ (by omega) rfl
      have c2 := hcc 2 _ (by omega) rfl
      have c3 := hcc 3 _ (by omega) rfl
      have c4 := hcc 4 _ (by omega) rfl
      have c5 := hcc 5 _ (by omega) rfl
      have c6 := hcc 6 _ (by omega) rfl
      have c7 := hcc 7 _ (by omega) rfl
      have c8 := hcc 8 _ (by omega) rfl
      have c9 := hcc 9 _ (by omega) rfl
      have c10 := hcc 10 _ (by omega) rfl
      have c11 := hcc 11 _ (by omega) rfl
      have c12 := hcc 12 _ (by omega) rfl
      have c13 := hcc 13 _ (by omega) rfl
      obtain ⟨s, hs⟩ : ∃ s, s = sumL (ms.take k) := ⟨_, rfl⟩
      rw [← hs] at hsb hsn ⊢
      obtain ⟨s1, s2⟩ := hsb
      obtain ⟨q1, q2⟩ := q
      obtain ⟨r1, r2⟩ := hq0
      have hw : wrap64 (s + q2) = s + q2 := by simp only at r1 r2; unfold wrap64; omega
      clear hcc hc hq hs
      by_cases hk27 : q1 = 27
      · subst hk27
        go_wp2_with fail
        go_roundw
        case rel => exact ⟨k + 1, by omega, by go_num, by rw [hsn.out]; simp, ⟨below_alloc BB.out _⟩⟩
        case measure => simp [intOf]; omega
      · have g1 : (q1 == 27) = false := by rw [beq_eq_false_iff_ne]; exact hk27
        go_wp2_with fail
        go_roundw
        case rel => exact ⟨k + 1, by omega, by go_num, by rw [hsn.out]; simp [hk27], ⟨below_alloc BB.out _⟩⟩
        case measure => simp [intOf]; omega
    · obtain rfl : k = ms.length := by omega
      have hsb := sumL_bound ms HM.out
      have hw : wrap64 (owed + booked) = owed + booked := by unfold wrap64; omega
      rw [List.take_length]
      go_wp2_with fail
      go_ret
      refine ⟨?_, BB.out⟩
      show Ending.returned (.bool (owed + booked == sumL ms)) = _
      rfl
end Go.Proofs.Ytaogmbiepbhmoaa.A

/- MatchStays walked. -/
import Derived.Test.YtaogmbiepbhmoaaRow2
import Derived.Test.YtaogmbiepbhmoaaPure3
import Derived.Deep.QuietTactic
import Derived.BigQuiet
namespace Go.Proofs.Ytaogmbiepbhmoaa.matchStays
open Go.RowKit Go.Maps ScKit Go.Proofs.YtaogmbiepbhmoaaW.PrintWords Go.Proofs.YtaogmbiepbhmoaaW.PrintLast Go.Proofs.YtaogmbiepbhmoaaW.PrintMore Go.Proofs.Ytaogmbiepbhmoaa.A

theorem lacks_len {a b : List S37} {zs : List Int} (hz : Both a b zs) : (onlyK (zs.map (pick a b)) a (zs.map (pick a b)).length).length = (onlyK b a b.length).length :=
  only_len fun x => by
    rw [someL hz]
    cases h1 : firstOf a x <;> cases h2 : firstOf b x <;> simp
theorem misses_len {a b : List S37} {zs : List Int} (hz : Both a b zs) : (onlyK (zs.map (pick a b)) b (zs.map (pick a b)).length).length = (onlyK a b a.length).length :=
  only_len fun x => by
    rw [someL hz]
    cases h1 : firstOf a x <;> cases h2 : firstOf b x <;> simp
theorem none_nil {a b : List S37} {zs : List Int} (hz : Both a b zs) : onlyK a (zs.map (pick a b)) a.length = [] := only_nil fun x h => (someL hz x).2 (.inl h)
theorem nothing_nil {a b : List S37} {zs : List Int} (hz : Both a b zs) : onlyK b (zs.map (pick a b)) b.length = [] := only_nil fun x h => (someL hz x).2 (.inr h)
theorem us_nil {a b : List S37} {us : List Int} (hm : ∀ x, x ∈ us ↔ UnlikeAt a b x) (h : ¬ ∃ x, UnlikeAt a b x) : us = [] := by
  rcases us with _ | ⟨x, us⟩
  · rfl
  · exact absurd ⟨x, (hm x).1 List.mem_cons_self⟩ h
theorem up_at {a b : List S37} {zs : List Int} (hz : Both a b zs) (k : Nat) (hk : k + 1 < (zs.map (pick a b)).length) : (rd_T37 (zs.map (pick a b)) (k : Int)).f0 < (rd_T37 (zs.map (pick a b)) ((k + 1 : Nat) : Int)).f0 := by
  rw [rd37_at (by omega), rd37_at hk]
  simp only [List.length_map] at hk
  simp only [List.getElem_map]
  rw [both_f0 hz _ (List.getElem_mem _), both_f0 hz _ (List.getElem_mem _)]
  have h1 := List.pairwise_iff_getElem.1 hz.2.1 k (k + 1) (by omega) hk (by omega)
  have h2 : zs[k] ≠ zs[k + 1] := fun e => by
    have := (List.getElem_inj hz.1).1 e
    omega
  omega
set_option maxHeartbeats 8000000 in
set_option maxRecDepth 100000 in
theorem walk : Walk2 5 := by
  intro A0 c0 l0 A1 c1 l1 w hc0 hC0 hg0 hc1 hC1 hg1
  have hn0 : Aside0 (l0.length ≤ 9223372036854775807) := ⟨by have := hC0.2.1; omega⟩
  have hn1 : Aside0 (l1.length ≤ 9223372036854775807) := ⟨by have := hC1.2.1; omega⟩
  have HR0 := Aside0.mk hC0
  have HR1 := Aside0.mk hC1
  replace hg0 := Aside0.mk hg0
  replace hg1 := Aside0.mk hg1
  clear hC0 hC1
  by_cases hf0 : Few l0
  · have e0 : Aside0 (supercargolaw48_few.f (l0.length + 1) l0 = some true) := ⟨by rw [few_f l0 hn0.out]; simp [hf0]⟩
    by_cases hf1 : Few l1
    · have e1 : Aside0 (supercargolaw48_few.f (l1.length + 1) l1 = some true) := ⟨by rw [few_f l1 hn1.out]; simp [hf1]⟩
      have HS0 : Aside0 (Sm l0) := ⟨hf0.sm fun p hp => (hg0.out p hp).1⟩
      have HS1 : Aside0 (Sm l1) := ⟨hf1.sm fun p hp => (hg1.out p hp).1⟩
      have hl0 : Aside0 (l0.length ≤ 20) := ⟨hf0.1⟩
      have hl1 : Aside0 (l1.length ≤ 20) := ⟨hf1.1⟩
      clear hf0 hf1
      go_enter Try.func5, Try.ntmps5
      go_wp2_with fail
      refine (awake_calls _).mono ?_
      rintro e w1 ⟨rfl, hB1⟩
      replace hB1 := Aside0.mk hB1
      go_wp2_with fail
      refine (supercargolaw48_few.calls _ A0 c0 l0 _ _ (Kd.C_below HR0.out hB1.out) hc0 e0.out).mono ?_
      rintro e w2 ⟨rfl, hD2⟩
      have hB2 := Aside0.mk (hB1.out.trans (hD2.below.mono hB1.out.size))
      clear hD2 hB1
      go_wp2_with fail
      refine (supercargolaw48_few.calls _ A1 c1 l1 _ _ (Kd.C_below HR1.out hB2.out) hc1 e1.out).mono ?_
      rintro e w3 ⟨rfl, hD3⟩
      have hB3 := Aside0.mk (hB2.out.trans (hD3.below.mono hB2.out.size))
      clear hD3 hB2
      go_wp2_with fail
      by_cases hu : ∃ x, UnlikeAt l0 l1 x
      · refine (mend_no A0 c0 l0 A1 c1 l1 _ (Kd.C_below HR0.out hB3.out) hc0 (Kd.C_below HR1.out hB3.out) hc1 HS0.out HS1.out hu).mono ?_
        rintro e w4 ⟨rfl, hB4⟩
        replace hB4 := Aside0.mk (hB3.out.trans (hB4.mono hB3.out.size))
        go_wp2_with fail
        refine (diff_calls A0 c0 l0 A1 c1 l1 _ (Kd.C_below HR0.out hB4.out) hc0 (Kd.C_below HR1.out hB4.out) hc1 HS0.out HS1.out).mono ?_
        rintro e w5 ⟨X, cx, Y, cy, U, cu, us, rfl, _, _, _, ⟨_, _, hm⟩, hB5⟩
        have hpos : ¬ us = [] := by
          intro e
          obtain ⟨x, hx⟩ := hu
          have := (hm x).2 hx
          rw [e] at this
          cases this
        have hpos2 : decide (0 < us.length) = true := by
          rw [decide_eq_true_eq]
          exact List.length_pos_iff.2 hpos
        replace hB5 := Aside0.mk (hB4.out.trans (hB5.mono hB4.out.size))
        clear hm hu hpos
        go_wp2_with fail
        go_ret
        exact ⟨rfl, hB5.out⟩
      · refine (mend_yes A0 c0 l0 A1 c1 l1 _ (Kd.C_below HR0.out hB3.out) hc0 (Kd.C_below HR1.out hB3.out) hc1 HS0.out HS1.out hu).mono ?_
        rintro e w4 ⟨A, c, zs, rfl, hLc, hLC, ⟨hz, hzl⟩, hB4⟩
        have HU := Aside0.mk hu
        have HZ := Aside0.mk hz
        have hzn : Aside0 (zs.length ≤ 40) := ⟨by have := hl0.out; have := hl1.out; omega⟩
        have HSL : Aside0 (Sm (zs.map (pick l0 l1))) := ⟨Sm_L HZ.out HS0.out HS1.out (by have := hzn.out; omega)⟩
        obtain ⟨L, hL⟩ : ∃ L, Aside0 (L = zs.map (pick l0 l1)) := ⟨_, ⟨rfl⟩⟩
        rw [← hL.out] at hLc hLC HSL ⊢
        have HL := Aside0.mk hLC
        replace hLc := Aside0.mk hLc
        have HB4 := Aside0.mk (hB3.out.trans (hB4.mono hB3.out.size))
        clear hu hz hzl hB4 hLC hB3
        go_wp2_with fail
        refine (diff_calls A0 c0 l0 A1 c1 l1 _ (Kd.C_below HR0.out HB4.out) hc0 (Kd.C_below HR1.out HB4.out) hc1 HS0.out HS1.out).mono ?_
        rintro e w5 ⟨X, cx, Y, cy, U, cu, us, rfl, _, _, _, ⟨_, _, hm⟩, hB5⟩
        obtain rfl := us_nil hm HU.out
        replace HL := Aside0.mk (Kd.C_below HL.out hB5)
        have HB5 := Aside0.mk (HB4.out.trans (hB5.mono HB4.out.size))
        clear hm hB5 HB4
        go_wp2_with fail
        refine (mend_yes A c L A0 c0 l0 _ HL.out hLc.out (Kd.C_below HR0.out HB5.out) hc0 HSL.out HS0.out (by rw [hL.out]; exact likeL_a HZ.out)).mono ?_
        rintro e w6 ⟨B, cb, ys, rfl, hPc, hPC, ⟨hy, _⟩, hB6⟩
        have ep : ys.map (pick L l0) = L := by rw [hL.out] at hy ⊢; exact againL HZ.out hy
        rw [ep] at hPc hPC ⊢
        have HP := Aside0.mk hPC
        replace hPc := Aside0.mk hPc
        replace HL := Aside0.mk (Kd.C_below HL.out hB6)
        have HB6 := Aside0.mk (HB5.out.trans (hB6.mono HB5.out.size))
        clear ep hPC hy hB6 HB5
        go_wp2_with fail
        refine (mend_yes A1 c1 l1 A c L _ (Kd.C_below HR1.out HB6.out) hc1 HL.out hLc.out HS1.out HSL.out (by rw [hL.out]; exact likeb_L HZ.out HU.out)).mono ?_
        rintro e w7 ⟨D, cd, xs, rfl, hQc, hQC, ⟨hx, _⟩, hB7⟩
        have eq : xs.map (pick l1 L) = L := by rw [hL.out] at hx ⊢; exact otherL HZ.out HU.out hx
        rw [eq] at hQc hQC ⊢
        have HQ := Aside0.mk hQC
        replace hQc := Aside0.mk hQc
        replace HL := Aside0.mk (Kd.C_below HL.out hB7)
        replace HP := Aside0.mk (Kd.C_below HP.out hB7)
        have HB7 := Aside0.mk (HB6.out.trans (hB7.mono HB6.out.size))
        clear eq hQC hx hB7 HB6
        go_wp2_with fail
        refine (diff_calls A c L A0 c0 l0 _ HL.out hLc.out (Kd.C_below HR0.out HB7.out) hc0 HSL.out HS0.out).mono ?_
        rintro e w8 ⟨X1, cx1, Y1, cy1, U1, cu1, us1, rfl, _, _, _, ⟨_, _, hm1⟩, hB8⟩
        obtain rfl := us_nil hm1 (by rw [hL.out]; exact likeL_a HZ.out)
        rw [show onlyK l0 L l0.length = [] by rw [hL.out]; exact none_nil HZ.out, show (onlyK L l0 L.length).length = (onlyK l1 l0 l1.length).length by rw [hL.out]; exact lacks_len HZ.out]
        replace HL := Aside0.mk (Kd.C_below HL.out hB8)
        replace HP := Aside0.mk (Kd.C_below HP.out hB8)
        replace HQ := Aside0.mk (Kd.C_below HQ.out hB8)
        have HB8 := Aside0.mk (HB7.out.trans (hB8.mono HB7.out.size))
        clear hm1 hB8 HB7
        go_wp2_with fail
        refine (diff_calls A c L A1 c1 l1 _ HL.out hLc.out (Kd.C_below HR1.out HB8.out) hc1 HSL.out HS1.out).mono ?_
        rintro e w9 ⟨X2, cx2, Y2, cy2, U2, cu2, us2, rfl, _, _, _, ⟨_, _, hm2⟩, hB9⟩
        obtain rfl := us_nil hm2 (by rw [hL.out]; exact likeL_b HZ.out HU.out)
        rw [show onlyK l1 L l1.length = [] by rw [hL.out]; exact nothing_nil HZ.out, show (onlyK L l1 L.length).length = (onlyK l0 l1 l0.length).length by rw [hL.out]; exact misses_len HZ.out]
        replace HL := Aside0.mk (Kd.C_below HL.out hB9)
        replace HP := Aside0.mk (Kd.C_below HP.out hB9)
        replace HQ := Aside0.mk (Kd.C_below HQ.out hB9)
        have HB9 := Aside0.mk (HB8.out.trans (hB9.mono HB8.out.size))
        have hsame : Aside0 (supercargoref48_Same.f 2010 L L = some true) := ⟨by rw [same_f L L HSL.out]; simp⟩
        clear hm2 hB9 HB8
        go_wp2_with fail
        refine (supercargoref48_Same.calls _ B cb L A c L _ _ HP.out hPc.out HL.out hLc.out hsame.out).mono ?_
        rintro e w10 ⟨rfl, hB10⟩
        replace HL := Aside0.mk (Kd.C_below HL.out hB10)
        replace HQ := Aside0.mk (Kd.C_below HQ.out hB10)
        have HB10 := Aside0.mk (HB9.out.trans (hB10.mono HB9.out.size))
        clear hB10 HB9 HP
        go_wp2_with fail
        refine (supercargoref48_Same.calls _ D cd L A c L _ _ HQ.out hQc.out HL.out hLc.out hsame.out).mono ?_
        rintro e w11 ⟨rfl, hB11⟩
        replace HL := Aside0.mk (Kd.C_below HL.out hB11)
        have HB11 := Aside0.mk (HB10.out.trans (hB11.mono HB10.out.size))
        clear hB11 HB10 HQ
        go_wp2_with fail
        clear e0 e1 hsame
        go_loopw [139] (fun i wr => ∃ k : Nat, k ≤ L.length ∧ i = .int .i64 k ∧ Aside0 (Below w11.heap.size w11 wr))
          (fun i _ => L.length - (intOf i).toNat)
        case atStart => exact ⟨0, Nat.zero_le _, rfl, ⟨Below.refl _ _⟩⟩
        case round =>
          obtain ⟨k, hk, rfl, HB⟩ := hrel
          have hll : L.length ≤ 40 := by have := hzn.out; rw [hL.out]; simpa using this
          by_cases hlt : k < L.length
          · obtain ⟨ad, A2, c2, rfl, hp0, hp1, hp2, _, _⟩ := at_T37 HL.out (k : Int) (by omega) (by omega)
            replace hp0 := cellB HB.out hp0
            replace hp1 := cellB HB.out hp1
            replace hp2 := cellB HB.out hp2
            simp only [Int.toNat_natCast] at hp0 hp1 hp2
            clear hn0 hn1 hg0 hg1
            by_cases hkp : 0 < k
            · obtain ⟨j, rfl⟩ : ∃ j, k = j + 1 := ⟨k - 1, by omega⟩
              obtain ⟨_, _, _, ej, hj0, _⟩ := at_T37 HL.out (j : Int) (by omega) (by omega)
              cases ej
              replace hj0 := cellB HB.out hj0
              simp only [Int.toNat_natCast] at hj0
              have hup := up_at HZ.out j (by rw [← hL.out]; omega)
              rw [← hL.out] at hup
              simp only [Int.natCast_add, Int.natCast_one] at hup hp0 hp1 hp2
              have hup2 : decide ((rd_T37 L ((j : Int) + 1)).f0 ≤ (rd_T37 L (j : Int)).f0) = false := by rw [decide_eq_false_iff_not]; omega
              have hgd : decide ((0 : Int) < (j : Int) + 1) = true := by rw [decide_eq_true_eq]; omega
              have hwr : IntKind.i64.wrap (j : Int) = (j : Int) := by rw [IntKind.wrap_i64]; omega
              have c37 : Try.prog.cellsOf 37 = 3 := by kernel_rfl
              have hix1 : (j : Int) < (L.length : Int) := by omega
              have hix3 : j < L.length := by omega
              have hix0 : (0 : Int) ≤ (j : Int) := by omega
              clear hup
              have hj1 : (wr.alloc (.cells #[.int .i64 (rd_T37 L ((j : Int) + 1)).f0, .string (rd_T37 L ((j : Int) + 1)).f1, .slice A2 (rd_T37 L ((j : Int) + 1)).f2.length c2] 37)).cell? (ad.add (j * 3)) = some (.int .i64 (rd_T37 L (j : Int)).f0) := cellB ((Below.refl _ _).alloc (Nat.le_refl _) _) hj0
              have hj2 : (wr.alloc (.cells #[.int .i64 (rd_T37 L ((j : Int) + 1)).f0, .string (rd_T37 L ((j : Int) + 1)).f1, .slice A2 (rd_T37 L ((j : Int) + 1)).f2.length c2] 37)).cell? ⟨wr.heap.size, 0, none⟩ = some (.int .i64 (rd_T37 L ((j : Int) + 1)).f0) := (box3 (blk_new wr _)).1
              go_wp2_with fail
              go_quiet (fail)
              go_wp2_with fail
              exact ⟨⟨j + 1 + 1, by omega, by go_num, ⟨pw_below_drewN (HB.out.alloc HB.out.size _) _⟩⟩, by simp [intOf]; omega⟩
            · have hgd : decide ((0 : Int) < (k : Int)) = false := by rw [decide_eq_false_iff_not]; omega
              go_wp2_with fail
              go_quiet (fail)
              go_wp2_with fail
              exact ⟨⟨k + 1, by omega, by go_num, ⟨pw_below_drewN (HB.out.alloc HB.out.size _) _⟩⟩, by simp [intOf]; omega⟩
          · go_wp2_with fail
            go_ret
            exact ⟨rfl, HB11.out.trans (HB.out.mono HB11.out.size)⟩
    · have e1 : Aside0 (supercargolaw48_few.f (l1.length + 1) l1 = some false) := ⟨by rw [few_f l1 hn1.out]; simp [hf1]⟩
      clear hf0 hf1
      go_enter Try.func5, Try.ntmps5
      go_wp2_with fail
      refine (awake_calls _).mono ?_
      rintro e w1 ⟨rfl, hB1⟩
      replace hB1 := Aside0.mk hB1
      go_wp2_with fail
      refine (supercargolaw48_few.calls _ A0 c0 l0 _ _ (Kd.C_below HR0.out hB1.out) hc0 e0.out).mono ?_
      rintro e w2 ⟨rfl, hD2⟩
      have hB2 := Aside0.mk (hB1.out.trans (hD2.below.mono hB1.out.size))
      clear hD2 hB1
      go_wp2_with fail
      refine (supercargolaw48_few.calls _ A1 c1 l1 _ _ (Kd.C_below HR1.out hB2.out) hc1 e1.out).mono ?_
      rintro e w3 ⟨rfl, hD3⟩
      have hB3 := Aside0.mk (hB2.out.trans (hD3.below.mono hB2.out.size))
      clear hD3 hB2
      go_wp2_with fail
      refine (awake_calls _).mono ?_
      rintro e w4 ⟨rfl, hB4⟩
      replace hB4 := Aside0.mk (hB3.out.trans (hB4.mono hB3.out.size))
      go_wp2_with fail
      go_ret
      exact ⟨rfl, hB4.out⟩
  · have e0 : Aside0 (supercargolaw48_few.f (l0.length + 1) l0 = some false) := ⟨by rw [few_f l0 hn0.out]; simp [hf0]⟩
    clear hf0
    go_enter Try.func5, Try.ntmps5
    go_wp2_with fail
    refine (awake_calls _).mono ?_
    rintro e w1 ⟨rfl, hB1⟩
    replace hB1 := Aside0.mk hB1
    go_wp2_with fail
    refine (supercargolaw48_few.calls _ A0 c0 l0 _ _ (Kd.C_below HR0.out hB1.out) hc0 e0.out).mono ?_
    rintro e w2 ⟨rfl, hD2⟩
    have hB2 := Aside0.mk (hB1.out.trans (hD2.below.mono hB1.out.size))
    clear hD2 hB1
    go_wp2_with fail
    refine (awake_calls _).mono ?_
    rintro e w4 ⟨rfl, hB4⟩
    replace hB4 := Aside0.mk (hB2.out.trans (hB4.mono hB2.out.size))
    go_wp2_with fail
    go_ret
    exact ⟨rfl, hB4.out⟩
end Go.Proofs.Ytaogmbiepbhmoaa.matchStays

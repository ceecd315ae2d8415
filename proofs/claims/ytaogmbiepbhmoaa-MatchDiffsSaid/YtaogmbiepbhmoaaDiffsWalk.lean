/- MatchDiffs walked. -/
import Derived.Test.YtaogmbiepbhmoaaRow2
import Derived.Test.YtaogmbiepbhmoaaRefOnly
import Derived.Test.YtaogmbiepbhmoaaRefUnlike
namespace Go.Proofs.Ytaogmbiepbhmoaa.matchDiffs
open Go.RowKit Go.Maps ScKit Go.Proofs.YtaogmbiepbhmoaaW.PrintWords Go.Proofs.YtaogmbiepbhmoaaW.PrintLast Go.Proofs.YtaogmbiepbhmoaaW.PrintMore Go.Proofs.Ytaogmbiepbhmoaa.A

theorem onlyK_mem {a b : List S37} (k : Nat) (hk : k ≤ a.length) : ∀ p ∈ onlyK a b k, p ∈ a := by
  induction k with
  | zero => intro p hp; simp [onlyK] at hp
  | succ k ih =>
    intro p hp
    by_cases h : firstOf (a.take k) (rd_T37 a k).f0 = none ∧ firstOf b (rd_T37 a k).f0 = none
    · rw [onlyK_yes h.2 h.1, List.mem_append, List.mem_singleton] at hp
      rcases hp with hp | hp
      · exact ih (by omega) p hp
      · rw [hp, rd37_at (by omega)]; exact List.getElem_mem _
    · rw [onlyK_skip h] at hp
      exact ih (by omega) p hp
theorem Sm_only {a b : List S37} (h : Sm a) : Sm (onlyK a b a.length) :=
  ⟨by have := onlyK_len a b a.length; have := h.1; omega, fun p hp => h.2 p (onlyK_mem a.length (Nat.le_refl _) p hp)⟩
set_option maxHeartbeats 8000000 in
set_option maxRecDepth 100000 in
theorem walk : Walk2 3 := by
  intro A0 c0 l0 A1 c1 l1 w hc0 hC0 hg0 hc1 hC1 hg1
  have hn0 : Aside0 (l0.length ≤ 9223372036854775807) := ⟨by have := hC0.2.1; omega⟩
  have hn1 : Aside0 (l1.length ≤ 9223372036854775807) := ⟨by have := hC1.2.1; omega⟩
  have HR0 := Aside0.mk hC0
  have HR1 := Aside0.mk hC1
  replace hg0 := Aside0.mk hg0
  replace hg1 := Aside0.mk hg1
  clear hC0 hC1
  by_cases hf0 : Few l0
  · have e0 : Aside0 (supercargolaw48_few.f (l0.length + 1) l0 = some true) := ⟨by rw [few_f l0 hn0.out]; simp [hf0]⟩
    by_cases hf1 : Few l1
    · have e1 : Aside0 (supercargolaw48_few.f (l1.length + 1) l1 = some true) := ⟨by rw [few_f l1 hn1.out]; simp [hf1]⟩
      have HS0 : Aside0 (Sm l0) := ⟨hf0.sm fun p hp => (hg0.out p hp).1⟩
      have HS1 : Aside0 (Sm l1) := ⟨hf1.sm fun p hp => (hg1.out p hp).1⟩
      have hl0 : Aside0 (l0.length ≤ 20) := ⟨hf0.1⟩
      have hl1 : Aside0 (l1.length ≤ 20) := ⟨hf1.1⟩
      clear hf0 hf1
      go_enter Try.func3, Try.ntmps3
      go_wp2_with fail
      refine (awake_calls _).mono ?_
      rintro e w1 ⟨rfl, hB1⟩
      replace hB1 := Aside0.mk hB1
      go_wp2_with fail
      refine (supercargolaw48_few.calls _ A0 c0 l0 _ _ (Kd.C_below HR0.out hB1.out) hc0 e0.out).mono ?_
      rintro e w2 ⟨rfl, hD2⟩
      have hB2 := Aside0.mk (hB1.out.trans (hD2.below.mono hB1.out.size))
      clear hD2 hB1
      go_wp2_with fail
      refine (supercargolaw48_few.calls _ A1 c1 l1 _ _ (Kd.C_below HR1.out hB2.out) hc1 e1.out).mono ?_
      rintro e w3 ⟨rfl, hD3⟩
      have hB3 := Aside0.mk (hB2.out.trans (hD3.below.mono hB2.out.size))
      clear hD3 hB2
      go_wp2_with fail
      refine (diff_calls A0 c0 l0 A1 c1 l1 _ (Kd.C_below HR0.out hB3.out) hc0 (Kd.C_below HR1.out hB3.out) hc1 HS0.out HS1.out).mono ?_
      rintro e w4 ⟨X, cx, Y, cy, U, cu, us, rfl, ⟨hXc, hX⟩, ⟨hYc, hY⟩, ⟨hUc, hU⟩, hus, hB4⟩
      replace hX := Aside0.mk hX
      replace hY := Aside0.mk hY
      replace hU := Aside0.mk hU
      replace hXc := Aside0.mk hXc
      replace hYc := Aside0.mk hYc
      replace hUc := Aside0.mk hUc
      replace hus := Aside0.mk hus
      have HB4 := Aside0.mk (hB3.out.trans (hB4.mono hB3.out.size))
      clear hB4 hB3 e0 e1
      have HSX : Aside0 (Sm (onlyK l0 l1 l0.length)) := ⟨Sm_only HS0.out⟩
      have HSY : Aside0 (Sm (onlyK l1 l0 l1.length)) := ⟨Sm_only HS1.out⟩
      obtain ⟨LX, hLX⟩ : ∃ L, L = onlyK l0 l1 l0.length := ⟨_, rfl⟩
      obtain ⟨LY, hLY⟩ : ∃ L, L = onlyK l1 l0 l1.length := ⟨_, rfl⟩
      have RX := fun w h1 h2 => refOnly_calls A0 c0 l0 A1 c1 l1 w h1 hc0 h2 hc1 HS0.out HS1.out
      have RY := fun w h1 h2 => refOnly_calls A1 c1 l1 A0 c0 l0 w h1 hc1 h2 hc0 HS1.out HS0.out
      rw [← hLX] at hX hXc HSX RX ⊢
      rw [← hLY] at hY hYc HSY RY ⊢
      replace RX := Aside0.mk RX
      replace RY := Aside0.mk RY
      have eX : Aside0 (supercargoref48_Same.f 2010 LX LX = some true) := ⟨by rw [same_f LX LX HSX.out]; simp⟩
      have eY : Aside0 (supercargoref48_Same.f 2010 LY LY = some true) := ⟨by rw [same_f LY LY HSY.out]; simp⟩
      clear hLX hLY
      go_wp2_with fail
      refine (RX.out _ (Kd.C_below HR0.out HB4.out) (Kd.C_below HR1.out HB4.out)).mono ?_
      rintro e w5 ⟨P, cp, rfl, hP1, hP2, hB5⟩
      have HB5 := Aside0.mk (HB4.out.trans (hB5.mono HB4.out.size))
      replace hX := Aside0.mk (Kd.C_below hX.out hB5)
      replace hY := Aside0.mk (Kd.C_below hY.out hB5)
      replace hU := Aside0.mk (Kd.C_below hU.out hB5)
      replace hP1 := Aside0.mk hP1
      replace hP2 := Aside0.mk hP2
      clear hB5 HB4
      go_wp2_with fail
      refine (supercargoref48_Same.calls _ X cx LX P cp LX _ _ hX.out hXc.out hP2.out hP1.out eX.out).mono ?_
      rintro e w6 ⟨rfl, hB6⟩
      have HB6 := Aside0.mk (HB5.out.trans (hB6.mono HB5.out.size))
      replace hY := Aside0.mk (Kd.C_below hY.out hB6)
      replace hU := Aside0.mk (Kd.C_below hU.out hB6)
      clear hB6 HB5 hP2
      go_wp2_with fail
      refine (RY.out _ (Kd.C_below HR1.out HB6.out) (Kd.C_below HR0.out HB6.out)).mono ?_
      rintro e w7 ⟨Q, cq, rfl, hQ1, hQ2, hB7⟩
      have HB7 := Aside0.mk (HB6.out.trans (hB7.mono HB6.out.size))
      replace hY := Aside0.mk (Kd.C_below hY.out hB7)
      replace hU := Aside0.mk (Kd.C_below hU.out hB7)
      replace hQ1 := Aside0.mk hQ1
      replace hQ2 := Aside0.mk hQ2
      clear hB7 HB6
      go_wp2_with fail
      refine (supercargoref48_Same.calls _ Y cy LY Q cq LY _ _ hY.out hYc.out hQ2.out hQ1.out eY.out).mono ?_
      rintro e w8 ⟨rfl, hB8⟩
      have HB8 := Aside0.mk (HB7.out.trans (hB8.mono HB7.out.size))
      replace hU := Aside0.mk (Kd.C_below hU.out hB8)
      clear hB8 HB7 hQ2
      go_wp2_with fail
      refine (refUnlike_calls A0 c0 l0 A1 c1 l1 _ (Kd.C_below HR0.out HB8.out) hc0 (Kd.C_below HR1.out HB8.out) hc1 HS0.out HS1.out).mono ?_
      rintro e w9 ⟨V, cv, vs, rfl, hV1, hV2, hvs, hB9⟩
      obtain rfl : us = vs := sorted_eq hus.out.1 hus.out.2.1 hvs.1 hvs.2.1 (fun x => by rw [hus.out.2.2, hvs.2.2])
      have HB9 := Aside0.mk (HB8.out.trans (hB9.mono HB8.out.size))
      replace hU := Aside0.mk (Kd.C_below hU.out hB9)
      replace hV1 := Aside0.mk hV1
      replace hV2 := Aside0.mk hV2
      have eU : Aside0 (supercargolaw48_ints.f (us.length + 1) us us = some true) := ⟨by rw [ints_f us us (by have := hU.out.2.1; omega)]; simp⟩
      clear hB9 HB8 hvs
      go_wp2_with fail
      refine (supercargolaw48_ints.calls _ U cu us V cv us _ _ hU.out hUc.out hV2.out hV1.out eU.out).mono ?_
      rintro e w10 ⟨rfl, hD10⟩
      have HB10 := Aside0.mk (HB9.out.trans (hD10.below.mono HB9.out.size))
      clear hD10 HB9
      go_wp2_with fail
      go_ret
      exact ⟨rfl, HB10.out⟩
    · have e1 : Aside0 (supercargolaw48_few.f (l1.length + 1) l1 = some false) := ⟨by rw [few_f l1 hn1.out]; simp [hf1]⟩
      clear hf0 hf1
      go_enter Try.func3, Try.ntmps3
      go_wp2_with fail
      refine (awake_calls _).mono ?_
      rintro e w1 ⟨rfl, hB1⟩
      replace hB1 := Aside0.mk hB1
      go_wp2_with fail
      refine (supercargolaw48_few.calls _ A0 c0 l0 _ _ (Kd.C_below HR0.out hB1.out) hc0 e0.out).mono ?_
      rintro e w2 ⟨rfl, hD2⟩
      have hB2 := Aside0.mk (hB1.out.trans (hD2.below.mono hB1.out.size))
      clear hD2 hB1
      go_wp2_with fail
      refine (supercargolaw48_few.calls _ A1 c1 l1 _ _ (Kd.C_below HR1.out hB2.out) hc1 e1.out).mono ?_
      rintro e w3 ⟨rfl, hD3⟩
      have hB3 := Aside0.mk (hB2.out.trans (hD3.below.mono hB2.out.size))
      clear hD3 hB2
      go_wp2_with fail
      refine (awake_calls _).mono ?_
      rintro e w4 ⟨rfl, hB4⟩
      replace hB4 := Aside0.mk (hB3.out.trans (hB4.mono hB3.out.size))
      go_wp2_with fail
      go_ret
      exact ⟨rfl, hB4.out⟩
  · have e0 : Aside0 (supercargolaw48_few.f (l0.length + 1) l0 = some false) := ⟨by rw [few_f l0 hn0.out]; simp [hf0]⟩
    clear hf0
    go_enter Try.func3, Try.ntmps3
    go_wp2_with fail
    refine (awake_calls _).mono ?_
    rintro e w1 ⟨rfl, hB1⟩
    replace hB1 := Aside0.mk hB1
    go_wp2_with fail
    refine (supercargolaw48_few.calls _ A0 c0 l0 _ _ (Kd.C_below HR0.out hB1.out) hc0 e0.out).mono ?_
    rintro e w2 ⟨rfl, hD2⟩
    have hB2 := Aside0.mk (hB1.out.trans (hD2.below.mono hB1.out.size))
    clear hD2 hB1
    go_wp2_with fail
    refine (awake_calls _).mono ?_
    rintro e w4 ⟨rfl, hB4⟩
    replace hB4 := Aside0.mk (hB2.out.trans (hB4.mono hB2.out.size))
    go_wp2_with fail
    go_ret
    exact ⟨rfl, hB4.out⟩
end Go.Proofs.Ytaogmbiepbhmoaa.matchDiffs

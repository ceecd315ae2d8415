/- MatchMends walked. -/
import Derived.Test.YtaogmbiepbhmoaaRow2
import Derived.Test.YtaogmbiepbhmoaaPure3
import Derived.Test.YtaogmbiepbhmoaaRefMend
namespace Go.Proofs.Ytaogmbiepbhmoaa.matchMends
open Go.RowKit Go.Maps ScKit Go.Proofs.YtaogmbiepbhmoaaW.PrintWords Go.Proofs.YtaogmbiepbhmoaaW.PrintLast Go.Proofs.YtaogmbiepbhmoaaW.PrintMore Go.Proofs.Ytaogmbiepbhmoaa.A
set_option maxHeartbeats 8000000 in
set_option maxRecDepth 100000 in
theorem walk : Walk2 4 := by
  intro A0 c0 l0 A1 c1 l1 w hc0 hC0 hg0 hc1 hC1 hg1
  have hn0 : Aside0 (l0.length ≤ 9223372036854775807) := ⟨by have := hC0.2.1; omega⟩
  have hn1 : Aside0 (l1.length ≤ 9223372036854775807) := ⟨by have := hC1.2.1; omega⟩
  have HR0 := Aside0.mk hC0
  have HR1 := Aside0.mk hC1
  replace hg0 := Aside0.mk hg0
  replace hg1 := Aside0.mk hg1
  clear hC0 hC1
  by_cases hf0 : Few l0
  · have e0 : Aside0 (supercargolaw48_few.f (l0.length + 1) l0 = some true) := ⟨by rw [few_f l0 hn0.out]; simp [hf0]⟩
    by_cases hf1 : Few l1
    · have e1 : Aside0 (supercargolaw48_few.f (l1.length + 1) l1 = some true) := ⟨by rw [few_f l1 hn1.out]; simp [hf1]⟩
      have HS0 : Aside0 (Sm l0) := ⟨hf0.sm fun p hp => (hg0.out p hp).1⟩
      have HS1 : Aside0 (Sm l1) := ⟨hf1.sm fun p hp => (hg1.out p hp).1⟩
      have hl0 : Aside0 (l0.length ≤ 20) := ⟨hf0.1⟩
      have hl1 : Aside0 (l1.length ≤ 20) := ⟨hf1.1⟩
      clear hf0 hf1
      go_enter Try.func4, Try.ntmps4
      go_wp2_with fail
      refine (awake_calls _).mono ?_
      rintro e w1 ⟨rfl, hB1⟩
      replace hB1 := Aside0.mk hB1
      go_wp2_with fail
      refine (supercargolaw48_few.calls _ A0 c0 l0 _ _ (Kd.C_below HR0.out hB1.out) hc0 e0.out).mono ?_
      rintro e w2 ⟨rfl, hD2⟩
      have hB2 := Aside0.mk (hB1.out.trans (hD2.below.mono hB1.out.size))
      clear hD2 hB1
      go_wp2_with fail
      refine (supercargolaw48_few.calls _ A1 c1 l1 _ _ (Kd.C_below HR1.out hB2.out) hc1 e1.out).mono ?_
      rintro e w3 ⟨rfl, hD3⟩
      have hB3 := Aside0.mk (hB2.out.trans (hD3.below.mono hB2.out.size))
      clear hD3 hB2
      go_wp2_with fail
      by_cases hu : ∃ x, UnlikeAt l0 l1 x
      · have hu2 : ∃ x, UnlikeAt l1 l0 x := by obtain ⟨x, p, q, h1, h2, h3⟩ := hu; exact ⟨x, q, p, h2, h1, Ne.symm h3⟩
        refine (mend_no A0 c0 l0 A1 c1 l1 _ (Kd.C_below HR0.out hB3.out) hc0 (Kd.C_below HR1.out hB3.out) hc1 HS0.out HS1.out hu).mono ?_
        rintro e w4 ⟨rfl, hB4⟩
        have HB4 := Aside0.mk (hB3.out.trans (hB4.mono hB3.out.size))
        clear hB4 hB3
        go_wp2_with fail
        refine (mend_no A1 c1 l1 A0 c0 l0 _ (Kd.C_below HR1.out HB4.out) hc1 (Kd.C_below HR0.out HB4.out) hc0 HS1.out HS0.out hu2).mono ?_
        rintro e w5 ⟨rfl, hB5⟩
        have HB5 := Aside0.mk (HB4.out.trans (hB5.mono HB4.out.size))
        clear hB5 HB4
        go_wp2_with fail
        refine (refMend_no A0 c0 l0 A1 c1 l1 _ (Kd.C_below HR0.out HB5.out) hc0 (Kd.C_below HR1.out HB5.out) hc1 HS0.out HS1.out hu).mono ?_
        rintro e w6 ⟨rfl, hB6⟩
        have HB6 := Aside0.mk (HB5.out.trans (hB6.mono HB5.out.size))
        clear hB6 HB5 hu hu2
        have hsame : Aside0 (supercargoref48_Same.f 2010 [] [] = some true) := ⟨by rw [same_f [] [] ⟨by simp, by simp⟩]; simp⟩
        go_wp2_with fail
        refine (supercargoref48_Same.calls _ none 0 [] none 0 [] _ _ (Kd.C_nil k37 _) (by simp) (Kd.C_nil k37 _) (by simp) hsame.out).mono ?_
        rintro e w7 ⟨rfl, hB7⟩
        have HB7 := Aside0.mk (HB6.out.trans (hB7.mono HB6.out.size))
        clear hB7 HB6
        go_wp2_with fail
        refine (supercargoref48_Same.calls _ none 0 [] none 0 [] _ _ (Kd.C_nil k37 _) (by simp) (Kd.C_nil k37 _) (by simp) hsame.out).mono ?_
        rintro e w8 ⟨rfl, hB8⟩
        have HB8 := Aside0.mk (HB7.out.trans (hB8.mono HB7.out.size))
        clear hB8 HB7
        go_wp2_with fail
        go_ret
        exact ⟨rfl, HB8.out⟩
      · refine (mend_yes A0 c0 l0 A1 c1 l1 _ (Kd.C_below HR0.out hB3.out) hc0 (Kd.C_below HR1.out hB3.out) hc1 HS0.out HS1.out hu).mono ?_
        rintro e w4 ⟨A, c, zs, rfl, hLc, hLC, ⟨hz, hzl⟩, hB4⟩
        have HU := Aside0.mk hu
        have HZ := Aside0.mk hz
        have hzn : Aside0 (zs.length ≤ 40) := ⟨by have := hl0.out; have := hl1.out; omega⟩
        have HSL : Aside0 (Sm (zs.map (pick l0 l1))) := ⟨Sm_L HZ.out HS0.out HS1.out (by have := hzn.out; omega)⟩
        obtain ⟨L, hL⟩ : ∃ L, Aside0 (L = zs.map (pick l0 l1)) := ⟨_, ⟨rfl⟩⟩
        rw [← hL.out] at hLc hLC HSL ⊢
        have HL := Aside0.mk hLC
        replace hLc := Aside0.mk hLc
        have HB4 := Aside0.mk (hB3.out.trans (hB4.mono hB3.out.size))
        clear hu hz hzl hB4 hLC hB3
        go_wp2_with fail
        refine (mend_yes A1 c1 l1 A0 c0 l0 _ (Kd.C_below HR1.out HB4.out) hc1 (Kd.C_below HR0.out HB4.out) hc0 HS1.out HS0.out (unlike_swap HU.out)).mono ?_
        rintro e w5 ⟨B, cb, ys, rfl, hPc, hPC, ⟨hy, _⟩, hB5⟩
        have ep : ys.map (pick l1 l0) = L := by rw [hL.out, both_swap hy HZ.out]; exact List.map_congr_left (fun x _ => pick_swap HU.out x)
        rw [ep] at hPc hPC ⊢
        have HP := Aside0.mk hPC
        replace hPc := Aside0.mk hPc
        replace HL := Aside0.mk (Kd.C_below HL.out hB5)
        have HB5 := Aside0.mk (HB4.out.trans (hB5.mono HB4.out.size))
        clear ep hPC hy hB5 HB4
        go_wp2_with fail
        refine (refMend_yes A0 c0 l0 A1 c1 l1 _ (Kd.C_below HR0.out HB5.out) hc0 (Kd.C_below HR1.out HB5.out) hc1 HS0.out HS1.out HU.out).mono ?_
        rintro e w6 ⟨G, cg, out, rfl, hGc, hGC, ⟨n, hbk⟩, hB6⟩
        obtain rfl : out = L := (hbk.whole HZ.out).trans hL.out.symm
        have HG := Aside0.mk hGC
        replace hGc := Aside0.mk hGc
        replace HL := Aside0.mk (Kd.C_below HL.out hB6)
        replace HP := Aside0.mk (Kd.C_below HP.out hB6)
        have HB6 := Aside0.mk (HB5.out.trans (hB6.mono HB5.out.size))
        have hsame : Aside0 (supercargoref48_Same.f 2010 out out = some true) := ⟨by rw [same_f out out HSL.out]; simp⟩
        clear hbk hGC hB6 HB5
        go_wp2_with fail
        refine (supercargoref48_Same.calls _ A c out G cg out _ _ HL.out hLc.out HG.out hGc.out hsame.out).mono ?_
        rintro e w7 ⟨rfl, hB7⟩
        have HB7 := Aside0.mk (HB6.out.trans (hB7.mono HB6.out.size))
        replace HG := Aside0.mk (Kd.C_below HG.out hB7)
        replace HP := Aside0.mk (Kd.C_below HP.out hB7)
        clear hB7 HB6 HL
        go_wp2_with fail
        refine (supercargoref48_Same.calls _ B cb out G cg out _ _ HP.out hPc.out HG.out hGc.out hsame.out).mono ?_
        rintro e w8 ⟨rfl, hB8⟩
        have HB8 := Aside0.mk (HB7.out.trans (hB8.mono HB7.out.size))
        clear hB8 HB7
        go_wp2_with fail
        go_ret
        exact ⟨rfl, HB8.out⟩
    · have e1 : Aside0 (supercargolaw48_few.f (l1.length + 1) l1 = some false) := ⟨by rw [few_f l1 hn1.out]; simp [hf1]⟩
      clear hf0 hf1
      go_enter Try.func4, Try.ntmps4
      go_wp2_with fail
      refine (awake_calls _).mono ?_
      rintro e w1 ⟨rfl, hB1⟩
      replace hB1 := Aside0.mk hB1
      go_wp2_with fail
      refine (supercargolaw48_few.calls _ A0 c0 l0 _ _ (Kd.C_below HR0.out hB1.out) hc0 e0.out).mono ?_
      rintro e w2 ⟨rfl, hD2⟩
      have hB2 := Aside0.mk (hB1.out.trans (hD2.below.mono hB1.out.size))
      clear hD2 hB1
      go_wp2_with fail
      refine (supercargolaw48_few.calls _ A1 c1 l1 _ _ (Kd.C_below HR1.out hB2.out) hc1 e1.out).mono ?_
      rintro e w3 ⟨rfl, hD3⟩
      have hB3 := Aside0.mk (hB2.out.trans (hD3.below.mono hB2.out.size))
      clear hD3 hB2
      go_wp2_with fail
      refine (awake_calls _).mono ?_
      rintro e w4 ⟨rfl, hB4⟩
      replace hB4 := Aside0.mk (hB3.out.trans (hB4.mono hB3.out.size))
      go_wp2_with fail
      go_ret
      exact ⟨rfl, hB4.out⟩
  · have e0 : Aside0 (supercargolaw48_few.f (l0.length + 1) l0 = some false) := ⟨by rw [few_f l0 hn0.out]; simp [hf0]⟩
    clear hf0
    go_enter Try.func4, Try.ntmps4
    go_wp2_with fail
    refine (awake_calls _).mono ?_
    rintro e w1 ⟨rfl, hB1⟩
    replace hB1 := Aside0.mk hB1
    go_wp2_with fail
    refine (supercargolaw48_few.calls _ A0 c0 l0 _ _ (Kd.C_below HR0.out hB1.out) hc0 e0.out).mono ?_
    rintro e w2 ⟨rfl, hD2⟩
    have hB2 := Aside0.mk (hB1.out.trans (hD2.below.mono hB1.out.size))
    clear hD2 hB1
    go_wp2_with fail
    refine (awake_calls _).mono ?_
    rintro e w4 ⟨rfl, hB4⟩
    replace hB4 := Aside0.mk (hB2.out.trans (hB4.mono hB2.out.size))
    go_wp2_with fail
    go_ret
    exact ⟨rfl, hB4.out⟩
end Go.Proofs.Ytaogmbiepbhmoaa.matchMends

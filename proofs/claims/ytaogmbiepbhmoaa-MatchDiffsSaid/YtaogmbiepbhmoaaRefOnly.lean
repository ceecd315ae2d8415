/- supercargoref48.Only walked: it gathers what the program's own only gathers. -/
import Derived.Test.YtaogmbiepbhmoaaFind
import Derived.Test.YtaogmbiepbhmoaaOnly
namespace Go.Proofs.Ytaogmbiepbhmoaa.A
open Go.RowKit Go.Maps ScKit Go.Proofs.YtaogmbiepbhmoaaW.PrintWords Go.Proofs.YtaogmbiepbhmoaaW.PrintLast Go.Proofs.YtaogmbiepbhmoaaW.PrintMore

theorem onlyK_skip {a b : List S37} {k : Nat} (h : ¬ (firstOf (a.take k) (rd_T37 a k).f0 = none ∧ firstOf b (rd_T37 a k).f0 = none)) : onlyK a b (k + 1) = onlyK a b k := by
  rcases h1 : firstOf b (rd_T37 a k).f0 with _ | q
  · rcases h2 : firstOf (a.take k) (rd_T37 a k).f0 with _ | q2
    · exact absurd ⟨h2, h1⟩ h
    · exact onlyK_no2 h2
  · exact onlyK_no1 h1

set_option maxHeartbeats 8000000 in
set_option maxRecDepth 100000 in
theorem refOnly_calls (A0 : Option Addr) (c0 : Nat) (l0 : List S37) (A1 : Option Addr) (c1 : Nat) (l1 : List S37) (w : World) (hr0 : Kd.C k37 w A0 l0.length l0) (hc0 : l0.length ≤ c0) (hr1 : Kd.C k37 w A1 l1.length l1) (hc1 : l1.length ≤ c1) (hs0 : Sm l0) (hs1 : Sm l1) :
    Calls Try.prog 11 #[.slice A0 l0.length c0, .slice A1 l1.length c1] w fun e w' => ∃ X cx, e = .returned (.slice X (onlyK l0 l1 l0.length).length cx) ∧ (onlyK l0 l1 l0.length).length ≤ cx ∧ Kd.C k37 w' X (onlyK l0 l1 l0.length).length (onlyK l0 l1 l0.length) ∧ Below w.heap.size w w' := by
  have HS0 := Aside0.mk hs0
  have HS1 := Aside0.mk hs1
  have HR0 := Aside0.mk hr0
  have HR1 := Aside0.mk hr1
  clear hr0 hr1 hs0 hs1
  go_enter Try.func11, Try.ntmps11
  go_wp2_with fail
  go_loopw [5, 6] (fun v i wr => ∃ k : Nat, k ≤ l0.length ∧ i = .int .i64 k ∧ Aside0 (Kd.N k37 37 wr w.heap.size (fun _ => True) v (onlyK l0 l1 k)) ∧ Aside0 (Below w.heap.size w wr))
    (fun _ i _ => l0.length - (intOf i).toNat)
  case atStart => exact ⟨0, Nat.zero_le _, rfl, ⟨N_lit0 k37 w 37⟩, ⟨(Below.refl _ _).alloc (Nat.le_refl _) _⟩⟩
  case round =>
    obtain ⟨k, hk, rfl, HO, HB⟩ := hrel
    have hll := HS0.out.1
    by_cases hlt : k < l0.length
    · obtain ⟨ad, A2, c2, rfl, hp0, hp1, hp2, hp3, hp4⟩ := at_T37 HR0.out (k : Int) (by omega) (by omega)
      replace hp0 := cellB HB.out hp0
      replace hp1 := cellB HB.out hp1
      replace hp2 := cellB HB.out hp2
      simp only [Int.toNat_natCast] at hp0 hp1 hp2
      have hF := Aside0.mk (Kd.C_F heap54 hp4)
      replace hp3 := Aside0.mk hp3
      have hf0 := Aside0.mk (find_f l0 (rd_T37 l0 k).f0 (by omega))
      have hf1 := Aside0.mk (find_f l1 (rd_T37 l0 k).f0 (by have := HS1.out.1; omega))
      have hps : Aside0 (placeFrom l0 (rd_T37 l0 k).f0 0 = (k : Int) ↔ firstOf (l0.take k) (rd_T37 l0 k).f0 = none) := ⟨by rw [rd37_at hlt]; exact place_self hlt⟩
      clear hp4
      by_cases g0 : firstOf (l0.take k) (rd_T37 l0 k).f0 = none
      · have e0 : placeFrom l0 (rd_T37 l0 k).f0 0 = (k : Int) := hps.out.2 g0
        rw [e0] at hf0
        clear hps
        by_cases g1 : firstOf l1 (rd_T37 l0 k).f0 = none
        · have e1 : decide (placeFrom l1 (rd_T37 l0 k).f0 0 < 0) = true := by rw [decide_eq_true_eq]; exact place_none.2 g1
          have HY := Aside0.mk (onlyK_yes g1 g0)
          clear g0 g1 e0
          go_wp2_with fail
          refine (supercargoref48_Find.calls _ (some ad) c0 l0 _ _ _ (Kd.C_below HR0.out HB.out) hc0 hf0.out).mono ?_
          rintro e w1 ⟨rfl, hD1⟩
          have HB1 := Aside0.mk (HB.out.trans (hD1.below.mono HB.out.size))
          replace hp0 := cellB hD1.below hp0
          replace hp1 := cellB hD1.below hp1
          replace hp2 := cellB hD1.below hp2
          replace HO := Aside0.mk (Kd.N_below HO.out hD1.below)
          clear hD1 HB
          go_wp2_with fail
          refine (supercargoref48_Find.calls _ A1 c1 l1 _ _ _ (Kd.C_below HR1.out HB1.out) hc1 hf1.out).mono ?_
          rintro e w2 ⟨rfl, hD2⟩
          have HB2 := Aside0.mk (HB1.out.trans (hD2.below.mono HB1.out.size))
          replace hp0 := cellB hD2.below hp0
          replace hp1 := cellB hD2.below hp1
          replace hp2 := cellB hD2.below hp2
          replace HO := Aside0.mk (Kd.N_below HO.out hD2.below)
          clear hD2 HB1
          go_wp2_with (at_builtin; refine Kd.N_append k37 (w0 := w2) w.heap.size rfl _ _ 22 37 _ 48 rfl Try.underlying22 info37 rfl (by decide) (by decide) u5 (onlyK l0 l1 k) (rd_T37 l0 k) _ (fun _ => True) (fun q => q < w.heap.size) rfl rfl ?hp ?hokp ?hf ?ho (Below.refl _ _) ?hb ?hl ?_)
          case hp => exact k37_mkF _ _ _ hp3.out (Kd.F_below hF.out HB2.out)
          case hokp => exact fun q hq => ⟨trivial, fun e => by have := Kd.N_base HO.out q e.symm; omega⟩
          case hf => exact fun _ _ => trivial
          case ho => exact HO.out
          case hb => exact HB2.out.size
          case hl => have := onlyK_len l0 l1 k; omega
          intro v1 w3 hN _ hg _
          have HN := Aside0.mk hN
          have HB3 : Aside0 (Below w.heap.size w w3) := ⟨HB2.out.grown hg HB2.out.size (fun j hj => Kd.N_base HO.out j hj)⟩
          clear hN hg
          go_wp2_with fail
          go_roundw
          case rel => exact ⟨k + 1, by omega, by go_num, ⟨by rw [HY.out]; exact HN.out⟩, HB3⟩
          case measure => simp [intOf]; omega
        · have e1 : decide (placeFrom l1 (rd_T37 l0 k).f0 0 < 0) = false := by rw [decide_eq_false_iff_not]; exact fun h => g1 (place_none.1 h)
          have HY := Aside0.mk (onlyK_skip (a := l0) (b := l1) (k := k) (fun h => g1 h.2))
          clear g0 g1 e0
          go_wp2_with fail
          refine (supercargoref48_Find.calls _ (some ad) c0 l0 _ _ _ (Kd.C_below HR0.out HB.out) hc0 hf0.out).mono ?_
          rintro e w1 ⟨rfl, hD1⟩
          have HB1 := Aside0.mk (HB.out.trans (hD1.below.mono HB.out.size))
          replace hp0 := cellB hD1.below hp0
          replace HO := Aside0.mk (Kd.N_below HO.out hD1.below)
          clear hD1 HB
          go_wp2_with fail
          refine (supercargoref48_Find.calls _ A1 c1 l1 _ _ _ (Kd.C_below HR1.out HB1.out) hc1 hf1.out).mono ?_
          rintro e w2 ⟨rfl, hD2⟩
          have HB2 := Aside0.mk (HB1.out.trans (hD2.below.mono HB1.out.size))
          replace HO := Aside0.mk (Kd.N_below HO.out hD2.below)
          clear hD2 HB1
          go_wp2_with fail
          go_roundw
          case rel => exact ⟨k + 1, by omega, by go_num, ⟨by rw [HY.out]; exact HO.out⟩, HB2⟩
          case measure => simp [intOf]; omega
      · have e0 : decide (placeFrom l0 (rd_T37 l0 k).f0 0 = (k : Int)) = false := by rw [decide_eq_false_iff_not]; exact fun h => g0 (hps.out.1 h)
        have HY := Aside0.mk (onlyK_skip (a := l0) (b := l1) (k := k) (fun h => g0 h.1))
        have e1 : (placeFrom l0 (rd_T37 l0 k).f0 0 == (k : Int)) = false := by rw [beq_eq_false_iff_ne]; exact of_decide_eq_false e0
        clear g0 hps
        go_wp2_with fail
        refine (supercargoref48_Find.calls _ (some ad) c0 l0 _ _ _ (Kd.C_below HR0.out HB.out) hc0 hf0.out).mono ?_
        rintro e w1 ⟨rfl, hD1⟩
        have HB1 := Aside0.mk (HB.out.trans (hD1.below.mono HB.out.size))
        replace HO := Aside0.mk (Kd.N_below HO.out hD1.below)
        clear hD1 HB
        go_wp2_with fail
        go_roundw
        case rel => exact ⟨k + 1, by omega, by go_num, ⟨by rw [HY.out]; exact HO.out⟩, HB1⟩
        case measure => simp [intOf]; omega
    · obtain rfl : k = l0.length := by omega
      obtain ⟨A, c, rfl, q1, q2⟩ := Kd.N_reads HO.out
      replace q1 := Aside0.mk q1
      replace q2 := Aside0.mk q2
      go_wp2_with fail
      go_ret
      exact ⟨A, c, rfl, q1.out, q2.out, HB.out⟩
end Go.Proofs.Ytaogmbiepbhmoaa.A

/- supercargoref48.Mend walked: all posts of both, or the error. -/
import Derived.Test.YtaogmbiepbhmoaaPut
import Derived.Test.YtaogmbiepbhmoaaRefUnlike
namespace Go.Proofs.Ytaogmbiepbhmoaa.A
open Go.RowKit Go.Maps ScKit Go.Proofs.YtaogmbiepbhmoaaW.PrintWords Go.Proofs.YtaogmbiepbhmoaaW.PrintLast Go.Proofs.YtaogmbiepbhmoaaW.PrintMore
set_option linter.unusedVariables false

set_option maxHeartbeats 8000000 in
set_option maxRecDepth 100000 in
theorem refMend_no (A0 : Option Addr) (c0 : Nat) (l0 : List S37) (A1 : Option Addr) (c1 : Nat) (l1 : List S37) (w : World) (hr0 : Kd.C k37 w A0 l0.length l0) (hc0 : l0.length ≤ c0) (hr1 : Kd.C k37 w A1 l1.length l1) (hc1 : l1.length ≤ c1) (hs0 : Sm l0) (hs1 : Sm l1) (hu : ∃ x, UnlikeAt l0 l1 x) :
    Calls Try.prog 15 #[.slice A0 l0.length c0, .slice A1 l1.length c1] w fun e w' => e = .returned (.tuple #[.slice none 0 0, .int .i64 15]) ∧ Below w.heap.size w w' := by
  have HS0 := Aside0.mk hs0
  have HS1 := Aside0.mk hs1
  have HR0 := Aside0.mk hr0
  have HR1 := Aside0.mk hr1
  clear hr0 hr1 hs0 hs1
  go_enter Try.func15, Try.ntmps15
  go_wp2_with fail
  refine (refUnlike_calls A0 c0 l0 A1 c1 l1 _ HR0.out hc0 HR1.out hc1 HS0.out HS1.out).mono ?_
  rintro e w1 ⟨U, cu, us, rfl, _, _, ⟨_, _, hm⟩, hB1⟩
  have hpos : ¬ us = [] := by
    intro e
    obtain ⟨x, hx⟩ := hu
    have := (hm x).2 hx
    rw [e] at this
    cases this
  have hpos2 : decide (0 < us.length) = true := by
    rw [decide_eq_true_eq]
    exact List.length_pos_iff.2 hpos
  replace hB1 := Aside0.mk hB1
  clear hm hu hpos
  go_wp2_with fail
  go_ret2
  exact ⟨rfl, hB1.out⟩

set_option maxHeartbeats 8000000 in
set_option maxRecDepth 100000 in
theorem refMend_yes (A0 : Option Addr) (c0 : Nat) (l0 : List S37) (A1 : Option Addr) (c1 : Nat) (l1 : List S37) (w : World) (hr0 : Kd.C k37 w A0 l0.length l0) (hc0 : l0.length ≤ c0) (hr1 : Kd.C k37 w A1 l1.length l1) (hc1 : l1.length ≤ c1) (hs0 : Sm l0) (hs1 : Sm l1) (hu : ¬ ∃ x, UnlikeAt l0 l1 x) :
    Calls Try.prog 15 #[.slice A0 l0.length c0, .slice A1 l1.length c1] w fun e w' => ∃ A c out, e = .returned (.tuple #[.slice A out.length c, .int .i64 0]) ∧ out.length ≤ c ∧ Kd.C k37 w' A out.length out ∧ (∃ n, Book out n (fun x => (firstOf l0 x).or (firstOf l1 x))) ∧ Below w.heap.size w w' := by
  have HS0 := Aside0.mk hs0
  have HS1 := Aside0.mk hs1
  have HR0 := Aside0.mk hr0
  have HR1 := Aside0.mk hr1
  clear hr0 hr1 hs0 hs1
  go_enter Try.func15, Try.ntmps15
  go_wp2_with fail
  refine (refUnlike_calls A0 c0 l0 A1 c1 l1 _ HR0.out hc0 HR1.out hc1 HS0.out HS1.out).mono ?_
  rintro e w1 ⟨U, cu, us, rfl, _, _, ⟨_, _, hm⟩, hB1⟩
  obtain rfl : us = [] := by
    rcases us with _ | ⟨x, us⟩
    · rfl
    · exact absurd ⟨x, (hm x).1 List.mem_cons_self⟩ hu
  replace hB1 := Aside0.mk hB1
  clear hm hu
  go_wp2_with fail
  go_loopw [6, 7] (fun v i wr => ∃ (k : Nat) (out : List S37), k ≤ l0.length ∧ i = .int .i64 k ∧ Aside0 (Kd.V k37 37 wr w.heap.size (fun _ => True) v out) ∧ Aside0 (Book out k (firstOf (l0.take k))) ∧ Aside0 (Below w.heap.size w wr))
    (fun _ i _ => l0.length - (intOf i).toNat)
  case atStart => exact ⟨0, [], Nat.zero_le _, rfl, ⟨Kd.N_V (N_lit0 k37 w1 37)⟩, ⟨⟨List.Pairwise.nil, Nat.le_refl _, fun x => by simp [firstOf]⟩⟩, ⟨hB1.out.alloc hB1.out.size _⟩⟩
  case round =>
    obtain ⟨k, out, hk, rfl, HV, HBk, HB⟩ := hrel
    have hll := HS0.out.1
    have hol := Aside0.mk HBk.out.2.1
    by_cases hlt : k < l0.length
    · obtain ⟨ad, A2, c2, rfl, hp0, hp1, hp2, hp3, hp4⟩ := at_T37 HR0.out (k : Int) (by omega) (by omega)
      simp only [Int.toNat_natCast] at hp0 hp1 hp2
      replace hp0 := cellB HB.out hp0
      replace hp1 := cellB HB.out hp1
      replace hp2 := cellB HB.out hp2
      replace hp3 := Aside0.mk hp3
      replace hp4 := Aside0.mk (Kd.C_below hp4 HB.out)
      obtain ⟨Ao, co, rfl⟩ := Kd.V_slice HV.out
      have HNx := Aside0.mk (HBk.out.first hlt)
      have hpf := Aside0.mk (put_f out (rd_T37 l0 k) (by have := hol.out; have := HS0.out.1; have := HS1.out.1; omega))
      go_wp2_with fail
      refine (supercargoref48_put.calls _ (fun _ => True) Ao co out _ _ (fun _ => True) A2 c2 _ _ _ (Kd.V_mono HV.out (fun _ _ => trivial)) (Kd.V_mono (Kd.V_mk (e := 54) (base := 0) hp3.out (Kd.C_F heap54 hp4.out)) (fun _ _ => trivial)) hpf.out).mono ?_
      rintro e w2 ⟨v2, rfl, hV2, hB2⟩
      have HV2 : Aside0 (Kd.V k37 37 w2 w.heap.size (fun _ => True) v2 (putP out (rd_T37 l0 k))) := ⟨Kd.V_mono hV2 (fun _ _ => trivial)⟩
      have HB2 := Aside0.mk (HB.out.trans (hB2.mono HB.out.size))
      clear hV2 hB2 HV HB hp0 hp1 hp2 hp3 hp4
      go_wp2_with fail
      go_roundw
      case rel => exact ⟨k + 1, _, by omega, by go_num, HV2, HNx, HB2⟩
      case measure => simp [intOf]; omega
    · obtain rfl : k = l0.length := by omega
      have HBk0 : Aside0 (Book out l0.length (firstOf l0)) := ⟨by have h := HBk.out; rwa [List.take_length] at h⟩
      have HV0 := HV
      have HB0 := HB
      clear HBk HV HB
      go_wp2_with fail
      go_loopw [6, 8] (fun v i wr => ∃ (k : Nat) (out : List S37), k ≤ l1.length ∧ i = .int .i64 k ∧ Aside0 (Kd.V k37 37 wr w.heap.size (fun _ => True) v out) ∧ Aside0 (Book out (l0.length + k) (fun x => (firstOf l0 x).or (firstOf (l1.take k) x))) ∧ Aside0 (Below w.heap.size w wr))
        (fun _ i _ => l1.length - (intOf i).toNat)
      case atStart => exact ⟨0, _, Nat.zero_le _, rfl, HV0, ⟨⟨HBk0.out.1, HBk0.out.2.1, fun x => by rw [HBk0.out.2.2]; simp [firstOf]⟩⟩, HB0⟩
      case round =>
        obtain ⟨k, out, hk, rfl, HV, HBk, HB⟩ := hrel
        have hll := HS1.out.1
        have hol := Aside0.mk HBk.out.2.1
        by_cases hlt : k < l1.length
        · obtain ⟨ad, A2, c2, rfl, hp0, hp1, hp2, hp3, hp4⟩ := at_T37 HR1.out (k : Int) (by omega) (by omega)
          simp only [Int.toNat_natCast] at hp0 hp1 hp2
          replace hp0 := cellB HB.out hp0
          replace hp1 := cellB HB.out hp1
          replace hp2 := cellB HB.out hp2
          replace hp3 := Aside0.mk hp3
          replace hp4 := Aside0.mk (Kd.C_below hp4 HB.out)
          obtain ⟨Ao, co, rfl⟩ := Kd.V_slice HV.out
          have HNx := Aside0.mk (HBk.out.second hlt)
          have hpf := Aside0.mk (put_f out (rd_T37 l1 k) (by have := hol.out; have := HS0.out.1; have := HS1.out.1; omega))
          go_wp2_with fail
          refine (supercargoref48_put.calls _ (fun _ => True) Ao co out _ _ (fun _ => True) A2 c2 _ _ _ (Kd.V_mono HV.out (fun _ _ => trivial)) (Kd.V_mono (Kd.V_mk (e := 54) (base := 0) hp3.out (Kd.C_F heap54 hp4.out)) (fun _ _ => trivial)) hpf.out).mono ?_
          rintro e w2 ⟨v2, rfl, hV2, hB2⟩
          have HV2 : Aside0 (Kd.V k37 37 w2 w.heap.size (fun _ => True) v2 (putP out (rd_T37 l1 k))) := ⟨Kd.V_mono hV2 (fun _ _ => trivial)⟩
          have HB2 := Aside0.mk (HB.out.trans (hB2.mono HB.out.size))
          clear hV2 hB2 HV HB hp0 hp1 hp2 hp3 hp4
          go_wp2_with fail
          go_roundw
          case rel => exact ⟨k + 1, _, by omega, by go_num, HV2, HNx, HB2⟩
          case measure => simp [intOf]; omega
        · obtain rfl : k = l1.length := by omega
          have HBk1 : Aside0 (Book out (l0.length + l1.length) (fun x => (firstOf l0 x).or (firstOf l1 x))) := ⟨by have h := HBk.out; rwa [List.take_length] at h⟩
          obtain ⟨Ao, co, rfl⟩ := Kd.V_slice HV.out
          have q := Aside0.mk (Kd.V_reads' HV.out).2
          go_wp2_with fail
          go_ret2
          exact ⟨Ao, co, out, rfl, q.out.1, q.out.2, ⟨_, HBk1.out⟩, HB.out⟩
end Go.Proofs.Ytaogmbiepbhmoaa.A

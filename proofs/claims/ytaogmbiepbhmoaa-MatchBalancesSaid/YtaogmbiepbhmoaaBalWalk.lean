/- MatchBalances walked. -/
import Derived.Test.YtaogmbiepbhmoaaBank
import Derived.Test.YtaogmbiepbhmoaaAwake
import Derived.Deep.QuietTactic
import Derived.BigQuiet
namespace Go.Proofs.Ytaogmbiepbhmoaa.matchBalances
open Go.RowKit Go.Lib Go.Maps ScKit Go.Proofs.YtaogmbiepbhmoaaW.PrintWords Go.Proofs.YtaogmbiepbhmoaaW.PrintLast Go.Proofs.YtaogmbiepbhmoaaW.PrintMore Go.Proofs.Ytaogmbiepbhmoaa.A
set_option linter.unusedVariables false
set_option linter.unusedSimpArgs false

theorem row_small0 (j : Nat) (h : j ≤ 1000000) : (([] : List (List Value)).length + j) * 192 ≤ 140737488355328 := by simp; omega
theorem row_small1 (ms : List (Int × Int)) (j : Nat) (h : ms.length ≤ 1000000) : (((ms.take j).map lett).length + (ms.length - (j + 1))) * 192 ≤ 140737488355328 := by simp; omega
theorem less_small (ms : List (Int × Int)) (j : Nat) (h : ms.length ≤ 40) : (ms.take j ++ ms.drop (j + 1)).length ≤ 40 := by simp; omega
def balLaw.T23 : Bool × List (List Nat × List Nat) := (true, [([], []), ([], []), ([], []), ([1, 2], [1, 2]), ([0, 3], [0, 3]), ([], []), ([], []), ([6], [6]), ([5, 7], [5, 7]), ([4, 8, 4], [4, 8]), ([9, 9, 0, 1, 2, 3, 4, 5, 6, 7, 8, 9], [9])])
def balLaw.B23 : List Nat := [0, 0, 0, 6, 15, 0, 0, 64, 224, 511, 1023]
theorem balLaw.tab23 : rtab .any (opsOf Try.f6 23) = balLaw.T23 := by kernel_rfl
theorem balLaw.bits23 : waitsOk balLaw.T23.2 balLaw.B23 = true := by kernel_rfl
set_option maxHeartbeats 8000000 in
set_option maxRecDepth 100000 in
theorem walk (A0 : Option Addr) (c0 : Nat) (l0 : List Int) (A1 : Option Addr) (c1 : Nat) (l1 : List Bool) (z : Int) (w : World) (hc0 : l0.length ≤ c0) (hC0 : Kd.C (Kd.int .u32) w A0 l0.length l0) (hg0 : ∀ n ∈ l0, (Lit.int .u32 n).wf = true) (hc1 : l1.length ≤ c1) (hC1 : Kd.C Kd.bool w A1 l1.length l1) (hz : (Lit.int .u8 z).wf = true) :
    Calls Try.prog 6 #[.slice A0 l0.length c0, .slice A1 l1.length c1, .int .u8 z] w fun e w' => e = .returned (.bool true) ∧ Below w.heap.size w w' := by
  have HR0 := Aside0.mk hC0
  have HR1 := Aside0.mk hC1
  have hG0 := Aside0.mk hg0
  have hZ : 0 ≤ z ∧ z ≤ 255 := by
    have e1 : IntKind.u8.min = 0 := rfl
    have e2 : IntKind.u8.max = 255 := rfl
    simp only [Lit.wf, e1, e2, Bool.and_eq_true, decide_eq_true_eq] at hz
    exact hz
  clear hC0 hC1 hg0 hz
  by_cases hf0 : l0.length ≤ 20
  · have e0 : decide ((20 : Int) < (l0.length : Int)) = false := by rw [decide_eq_false_iff_not]; omega
    by_cases hf1 : l1.length ≤ 20
    · have e1 : decide ((20 : Int) < (l1.length : Int)) = false := by rw [decide_eq_false_iff_not]; omega
      go_enter Try.func6, Try.ntmps6
      go_wp2_with fail
      refine (awake_calls _).mono ?_
      rintro e w1 ⟨rfl, hB1⟩
      have B1 := Aside0.mk hB1
      clear hB1
      go_wp2_with fail
      clear e0 e1
      refine (new_calls _ _).mono ?_
      rintro e w2 ⟨pa, ma, rfl, hLa, hB2⟩
      have La := Aside0.mk hLa
      have hab : Aside0 (w.heap.size ≤ w1.heap.size) := ⟨B1.out.size⟩
      have B2 := Aside0.mk (below_step B1.out hB2)
      clear hLa hB2 
      go_wp2_with fail
      refine (new_calls _ _).mono ?_
      rintro e w3 ⟨pb, mb, rfl, hLb, hB3⟩
      have La3 := Aside0.mk (La.out.below hB3)
      have Lb3 := Aside0.mk hLb
      have hap : Aside0 (∀ q, Own pa ma (.slice none 0 0) q → ¬ Own pb mb (.slice none 0 0) q) := ⟨fun q h1 h2 => by have := La.out.lt q h1; have := hLb.base q h2; omega⟩
      have hbb : Aside0 (w.heap.size ≤ w2.heap.size) := ⟨B2.out.size⟩
      have B3 := Aside0.mk (below_step B2.out hB3)
      clear hLb hB3 La B1 B2
      have La4 := Aside0.mk (La3.out.lower hab.out)
      have Lb4 := Aside0.mk (Lb3.out.lower hbb.out)
      have B4 := B3
      clear La3 Lb3 B3 hab hbb
      go_wp2_with fail
      refine (open_calls La4.out (by omega) aY EUR (litOf aY EUR) keyY rfl (by decide) (by decide) fineY rfl fineE (-1099511627776) (by omega) (by omega)).mono ?_
      rintro e w5 ⟨rfl, hL, hM⟩
      have La5 := Aside0.mk hL
      have Lb5 := Aside0.mk (Lb4.out.mod hM (fun k h1 h2 => hap.out k (.inr (.inl h2)) h1))
      have B5 : Aside0 (Below w.heap.size w w5) := ⟨hM.toBelow B4.out B4.out.size (fun k hk => by rw [hk]; exact La4.out.bm)⟩
      clear hL hM La4 Lb4 B4
      go_wp2_with fail
      refine (open_calls La5.out (by omega) aV EUR (litOf aV EUR) keyV (by rw [upd_ne _ _ (lit_ne keyV keyY (.inl (by decide)))]) (by decide) (by decide) fineV rfl fineE 0 (by omega) (by omega)).mono ?_
      rintro e w6 ⟨rfl, hL, hM⟩
      have La6 := Aside0.mk hL
      have Lb6 := Aside0.mk (Lb5.out.mod hM (fun k h1 h2 => hap.out k (.inr (.inl h2)) h1))
      have B6 : Aside0 (Below w.heap.size w w6) := ⟨hM.toBelow B5.out B5.out.size (fun k hk => by rw [hk]; exact La5.out.bm)⟩
      clear hL hM La5 Lb5 B5
      go_wp2_with fail
      refine (open_calls Lb6.out (by omega) aN EUR (litOf aN EUR) keyN rfl (by decide) (by decide) fineN rfl fineE (-1099511627776) (by omega) (by omega)).mono ?_
      rintro e w7 ⟨rfl, hL, hM⟩
      have Lb7 := Aside0.mk hL
      have La7 := Aside0.mk (La6.out.mod hM (fun k h1 h2 => hap.out k h1 (.inr (.inl h2))))
      have B7 : Aside0 (Below w.heap.size w w7) := ⟨hM.toBelow B6.out B6.out.size (fun k hk => by rw [hk]; exact Lb6.out.bm)⟩
      clear hL hM Lb6 La6 B6
      go_wp2_with fail
      refine (open_calls Lb7.out (by omega) aS EUR (litOf aS EUR) keyS (by rw [upd_ne _ _ (lit_ne keyS keyN (.inl (by decide)))]) (by decide) (by decide) fineS rfl fineE 0 (by omega) (by omega)).mono ?_
      rintro e w8 ⟨rfl, hL, hM⟩
      have Lb8 := Aside0.mk hL
      have La8 := Aside0.mk (La7.out.mod hM (fun k h1 h2 => hap.out k h1 (.inr (.inl h2))))
      have B8 : Aside0 (Below w.heap.size w w8) := ⟨hM.toBelow B7.out B7.out.size (fun k hk => by rw [hk]; exact Lb7.out.bm)⟩
      clear hL hM Lb7 La7 B7
      go_wp2_with fail
      have H0 : Aside0 (Three (w8.alloc (.cells (lett (13, 5)).toArray 48)) w.heap.size pa ma 2 (.slice none 0 0) 0 (fA (litOf aY EUR) (litOf aV EUR) 0) pb mb 2 (.slice none 0 0) 0 (fA (litOf aN EUR) (litOf aS EUR) 0) (.slice (some ⟨w8.heap.size, 0, none⟩) 1 1) [(13, 5)]) :=
        ⟨La8.out.below (below_alloc (Below.refl _ _) _), Lb8.out.below (below_alloc (Below.refl _ _) _), Kd.R_mono (Kd.R_lower (R_lett w8 (13, 5)) B8.out.size) (fun q hq => ⟨fun h => by have := La8.out.lt q h; omega, fun h => by have := Lb8.out.lt q h; omega⟩), hap.out⟩
      have B9 : Aside0 (Below w.heap.size w (w8.alloc (.cells (lett (13, 5)).toArray 48))) := ⟨below_alloc B8.out _⟩
      clear La8 Lb8 B8 hap
      obtain ⟨kY, hkY⟩ : ∃ k, k = litOf aY EUR := ⟨_, rfl⟩
      obtain ⟨kV, hkV⟩ : ∃ k, k = litOf aV EUR := ⟨_, rfl⟩
      obtain ⟨kN, hkN⟩ : ∃ k, k = litOf aN EUR := ⟨_, rfl⟩
      obtain ⟨kS, hkS⟩ : ∃ k, k = litOf aS EUR := ⟨_, rfl⟩
      have KY := Aside0.mk keyY
      have KV := Aside0.mk keyV
      have KN := Aside0.mk keyN
      have KS := Aside0.mk keyS
      rw [← hkY] at KY
      rw [← hkV] at KV
      rw [← hkN] at KN
      rw [← hkS] at KS
      rw [← hkY, ← hkV, ← hkN, ← hkS] at H0
      have hYV : Aside0 (kY ≠ kV) := ⟨lit_ne KY.out KV.out (.inl (by decide))⟩
      have hNS : Aside0 (kN ≠ kS) := ⟨lit_ne KN.out KS.out (.inl (by decide))⟩
      clear hkY hkV hkN hkS
      go_loopw [9, 57] (fun vm i wr => ∃ (k Na : Nat) (va : Value) (Nb : Nat) (vb : Value) (kb : Nat) (S T : Int) (ms : List (Int × Int)), k ≤ l0.length ∧ i = .int .i64 k ∧ Aside0 (Three wr w.heap.size pa ma Na va k (fA kY kV S) pb mb Nb vb kb (fA kN kS T) vm ms) ∧ Aside0 (Sums k Na Nb kb S T ms) ∧ Aside0 (Below w.heap.size w wr))
        (fun _ i _ => l0.length - (intOf i).toNat)
      case atStart => exact ⟨0, 2, _, 2, _, 0, 0, 0, [(13, 5)], Nat.zero_le _, rfl, H0, ⟨Sums.start⟩, B9⟩
      case round =>
        obtain ⟨k, Na, va, Nb, vb, kb, S, T, ms, hk, rfl, HT, HS, HB⟩ := hrel
        by_cases hlt : k < l0.length
        · obtain ⟨ad, rfl, hx⟩ := Kd.at_int HR0.out (k : Int) (by omega) (by omega)
          have hn0 := hG0.out (rd l0 (k : Int)) (by simp [rd, hlt])
          obtain ⟨n, hn⟩ : ∃ n, n = rd l0 (k : Int) := ⟨_, rfl⟩
          rw [← hn] at hx hn0
          have hn1 : 0 ≤ n ∧ n ≤ 4294967295 := by
            have e1 : IntKind.u32.min = 0 := rfl
            have e2 : IntKind.u32.max = 4294967295 := rfl
            simp only [Lit.wf, e1, e2, Bool.and_eq_true, decide_eq_true_eq] at hn0
            exact hn0
          obtain ⟨n0, n1⟩ := hn1
          clear hn hn0
          simp only [Int.toNat_natCast] at hx
          replace hx := cellB HB.out hx
          have q1 : wrap64 n = n := by unfold wrap64; omega
          have q2 : wrap64 (n + 1) = n + 1 := by unfold wrap64; omega
          have q3 : wrap64 (-(n + 1)) = -(n + 1) := by unfold wrap64; omega
          have hNa : Aside0 (Na < 500) := ⟨by have := HS.out.na; omega⟩
          have hNb : Aside0 (Nb < 500) := ⟨by have := HS.out.nb; omega⟩
          have hS1 : Aside0 (0 ≤ S ∧ S + (n + 1) ≤ 1099511627776) := ⟨by have := HS.out.s0; have := HS.out.s1; omega⟩
          have hT1 : Aside0 (0 ≤ T ∧ T + (n + 1) ≤ 1099511627776) := ⟨by have := HS.out.t0; have := HS.out.t1; omega⟩
          go_wp2_with fail
          have HT1 : Aside0 (Three (wr.alloc (.cells #[.string aY, .string EUR, .int .i64 (-(n + 1)), .string aV, .string EUR, .int .i64 (n + 1)] 54)) w.heap.size pa ma Na va k (fA kY kV S) pb mb Nb vb kb (fA kN kS T) u9 ms) := ⟨HT.out.below (below_alloc (Below.refl _ _) _)⟩
          have HB1 : Aside0 (Below w.heap.size w (wr.alloc (.cells #[.string aY, .string EUR, .int .i64 (-(n + 1)), .string aV, .string EUR, .int .i64 (n + 1)] 54))) := ⟨below_alloc HB.out _⟩
          have hlw := Aside0.mk HT.out.la.lt
          clear HT HB
          refine (post_calls HT1.out.la (by omega) hNa.out ⟨#[112, 97, 121]⟩ (by decide) aY aV kY kV (-1099511627776) (-S) 0 S (n + 1) (fA_pay KY.out KV.out hYV.out hS1.out.1 (by omega) hS1.out.2) (some ⟨wr.heap.size, 0, none⟩) 2 (Nat.le_refl _) (C_ents wr aY aV (n + 1)) (fun ad e h => by injection e with e; subst e; have := hlw.out _ h; simp at this)).mono ?_
          rintro e w2 ⟨va', rfl, hL2, hM2, hv2⟩
          rw [fA_new] at hL2
          have HT2 := Aside0.mk (HT1.out.first hL2 hM2 hv2)
          have HB2 : Aside0 (Below w.heap.size w w2) := ⟨hM2.toBelow HB1.out HB1.out.size HT1.out.la.base⟩
          clear hL2 hM2 hv2 HT1 HB1 hlw
          by_cases hb : k < l1.length
          · obtain ⟨ad1, e1, hx1⟩ := Kd.at_bool HR1.out (k : Int) (by omega) (by omega)
            cases e1
            simp only [Int.toNat_natCast] at hx1
            replace hx1 := cellB HB2.out hx1
            have g1 : decide ((k : Int) < (l1.length : Int)) = true := by rw [decide_eq_true_eq]; omega
            obtain ⟨bk, hbk⟩ : ∃ bk, bk = rdOf false l1 (k : Int) := ⟨_, rfl⟩
            rw [← hbk] at hx1
            clear hbk
            cases bk
            · skip
              go_wp2_with (first
                | (at_builtin; refine Kd.R_append (Kd.raw 14) (w0 := w2) w.heap.size rfl _ _ 49 48 _ 192 rfl Try.underlying49 info48 rfl (by decide) (by decide) u9 (ms.map lett) (lett (27, n + 1)) (lett (27, n + 1)) (Off pa ma va' pb mb vb) (fun _ => False) rfl rfl (lett_raw _ _ _ _) (fun _ h => h.elim) ?hf ?ho (Below.refl _ _) ?hb ?hl ?_)
                | fail)
              case hf => exact fun q hq => ⟨fun h => by have := HT2.out.la.lt q h; omega, fun h => by have := HT2.out.lb.lt q h; omega⟩
              case ho => exact HT2.out.ml
              case hb => exact HB2.out.size
              case hl => have := HS.out.len; simp; omega
              intro v1 w4 hR _ hg _
              have HT4 := Aside0.mk (HT2.out.mail (q := (27, n + 1)) (by simpa using hR) hg)
              have HB4 : Aside0 (Below w.heap.size w w4) := ⟨HB2.out.grown hg HB2.out.size (fun j hj => Kd.R_base HT2.out.ml j hj)⟩
              have HS4 := Aside0.mk (HS.out.send (x := n + 1) (by omega) (by omega))
              clear hR hg HT2 HB2 HS
              go_wp2_with fail
              go_roundw
              case rel => exact ⟨k + 1, _, va', _, vb, _, _, _, _, by omega, by go_num, HT4, HS4, HB4⟩
              case measure => simp [intOf]; omega
            · skip
              go_wp2_with fail
              have HT3 : Aside0 (Three (w2.alloc (.cells #[.string aN, .string EUR, .int .i64 (-(n + 1)), .string aS, .string EUR, .int .i64 (n + 1)] 54)) w.heap.size pa ma (Na + 2) va' (k + 1) (fA kY kV (S + (n + 1))) pb mb Nb vb kb (fA kN kS T) u9 ms) := ⟨HT2.out.below (below_alloc (Below.refl _ _) _)⟩
              have HB3 : Aside0 (Below w.heap.size w (w2.alloc (.cells #[.string aN, .string EUR, .int .i64 (-(n + 1)), .string aS, .string EUR, .int .i64 (n + 1)] 54))) := ⟨below_alloc HB2.out _⟩
              have hlw := Aside0.mk HT2.out.lb.lt
              clear HT2 HB2
              refine (post_calls HT3.out.lb (by have := HS.out.kb; omega) hNb.out ⟨#[114, 101, 109, 105, 116]⟩ (by decide) aN aS kN kS (-1099511627776) (-T) 0 T (n + 1) (fA_pay KN.out KS.out hNS.out hT1.out.1 (by omega) hT1.out.2) (some ⟨w2.heap.size, 0, none⟩) 2 (Nat.le_refl _) (C_ents w2 aN aS (n + 1)) (fun ad e h => by injection e with e; subst e; have := hlw.out _ h; simp at this)).mono ?_
              rintro e w4 ⟨vb', rfl, hL4, hM4, hv4⟩
              rw [fA_new] at hL4
              have HT4 := Aside0.mk (HT3.out.swap.first hL4 hM4 hv4).swap
              have HB4 : Aside0 (Below w.heap.size w w4) := ⟨hM4.toBelow HB3.out HB3.out.size HT3.out.lb.base⟩
              have HS4 := Aside0.mk (HS.out.book (x := n + 1) (by omega) (by omega))
              clear hL4 hM4 hv4 HT3 HB3 hlw HS
              go_wp2_with fail
              go_roundw
              case rel => exact ⟨k + 1, _, va', _, vb', _, _, _, ms, by omega, by go_num, HT4, HS4, HB4⟩
              case measure => simp [intOf]; omega
          · have g1 : decide ((k : Int) < (l1.length : Int)) = false := by rw [decide_eq_false_iff_not]; omega
            go_wp2_with (first
              | (at_builtin; refine Kd.R_append (Kd.raw 14) (w0 := w2) w.heap.size rfl _ _ 49 48 _ 192 rfl Try.underlying49 info48 rfl (by decide) (by decide) u9 (ms.map lett) (lett (27, n + 1)) (lett (27, n + 1)) (Off pa ma va' pb mb vb) (fun _ => False) rfl rfl (lett_raw _ _ _ _) (fun _ h => h.elim) ?hf ?ho (Below.refl _ _) ?hb ?hl ?_)
              | fail)
            case hf => exact fun q hq => ⟨fun h => by have := HT2.out.la.lt q h; omega, fun h => by have := HT2.out.lb.lt q h; omega⟩
            case ho => exact HT2.out.ml
            case hb => exact HB2.out.size
            case hl => have := HS.out.len; simp; omega
            intro v1 w4 hR _ hg _
            have HT4 := Aside0.mk (HT2.out.mail (q := (27, n + 1)) (by simpa using hR) hg)
            have HB4 : Aside0 (Below w.heap.size w w4) := ⟨HB2.out.grown hg HB2.out.size (fun j hj => Kd.R_base HT2.out.ml j hj)⟩
            have HS4 := Aside0.mk (HS.out.send (x := n + 1) (by omega) (by omega))
            clear hR hg HT2 HB2 HS
            go_wp2_with fail
            go_roundw
            case rel => exact ⟨k + 1, _, va', _, vb, _, _, _, _, by omega, by go_num, HT4, HS4, HB4⟩
            case measure => simp [intOf]; omega
        · skip
          obtain rfl : k = l0.length := by omega
          obtain ⟨Am, cm, ev, hcm, hCm⟩ := Kd.R_reads HT.out.ml
          rw [List.length_map] at ev hcm hCm
          have HC := Aside0.mk hCm
          have hcm2 := Aside0.mk hcm
          have hsm := Aside0.mk HS.out.small
          have hln := HS.out.len
          have hms40 : ms.length ≤ 1000000 := by omega
          have hms41 : ms.length ≤ 40 := by omega
          have hs0 : 0 ≤ S ∧ S ≤ 1099511627776 := by have := HS.out.s0; have := HS.out.s1; omega
          have ht0 : 0 ≤ T ∧ T ≤ 1099511627776 := by have := HS.out.t0; have := HS.out.t1; omega
          have hml := Aside0.mk HT.out.ml
          have hS9 : Aside0 (-1099511627776 ≤ S ∧ S ≤ 1099511627776) := ⟨by omega, by omega⟩
          have hT9 : Aside0 (-1099511627776 ≤ -T ∧ -T ≤ 1099511627776) := ⟨by omega, by omega⟩
          subst ev
          have BV := Aside0.mk (fun w1 (hb : Below wr.heap.size wr w1) => balance_some (HT.out.la.below hb) aV EUR kV KV.out 0 S (fA_two kY kV S))
          have BN := Aside0.mk (fun w1 (hb : Below wr.heap.size wr w1) => balance_some (HT.out.lb.below hb) aN EUR kN KN.out (-1099511627776) (-T) (fA_one hNS.out T))
          have UV := Aside0.mk (fun w1 (hb : Below wr.heap.size wr w1) => balance_none (HT.out.la.below hb) aV USD (litOf aV USD) keyVU (fA_none (lit_ne keyVU KY.out (.inl (by decide))) (lit_ne keyVU KV.out (.inr (by decide))) S))
          have UN := Aside0.mk (fun w1 (hb : Below wr.heap.size wr w1) => balance_none (HT.out.lb.below hb) aN USD (litOf aN USD) keyNU (fA_none (lit_ne keyNU KN.out (.inr (by decide))) (lit_ne keyNU KS.out (.inl (by decide))) T))
          have OA := Aside0.mk (fun w1 (hb : Below wr.heap.size wr w1) => balance_none (HT.out.la.below hb) aO EUR (litOf aO EUR) keyO (fA_none (lit_ne keyO KY.out (.inl (by decide))) (lit_ne keyO KV.out (.inl (by decide))) S))
          have OB := Aside0.mk (fun w1 (hb : Below wr.heap.size wr w1) => balance_none (HT.out.lb.below hb) aO EUR (litOf aO EUR) keyO (fA_none (lit_ne keyO KN.out (.inl (by decide))) (lit_ne keyO KS.out (.inl (by decide))) T))
          clear hcm hCm HT
          have d1 : decide (S + -T = sumL ms) = true := by rw [decide_eq_true_eq, ← HS.out.eq]; omega
          have d2 : decide ((0 : Int) + 0 = sumL []) = true := by decide
          go_wp2_with fail
          refine (balanced_calls wr ⟨pa, 0, none⟩ ⟨pb, 0, none⟩ aN aV EUR S (-T) true true Am cm ms HC.out (.inr rfl) hsm.out (by omega) (by omega) (by omega) BV.out BN.out).mono ?_
          rintro e w2 ⟨rfl, hB2⟩
          rw [d1]
          have B2 := Aside0.mk hB2
          clear hB2
          go_wp2_with fail
          refine (balanced_calls w2 ⟨pa, 0, none⟩ ⟨pb, 0, none⟩ aN aV USD 0 0 false false none 0 [] (Kd.C_nil _ _) (.inl rfl) (fun _ h => by cases h) (by decide) (by omega) (by omega) (fun w1 hb => UV.out w1 (below_step B2.out hb)) (fun w1 hb => UN.out w1 (below_step B2.out hb))).mono ?_
          rintro e w3 ⟨rfl, hB3⟩
          rw [d2]
          have B3 := Aside0.mk (below_step B2.out hB3)
          clear hB3
          go_wp2_with fail
          refine (balanced_calls w3 ⟨pb, 0, none⟩ ⟨pa, 0, none⟩ aO aO EUR 0 0 false false none 0 [] (Kd.C_nil _ _) (.inl rfl) (fun _ h => by cases h) (by decide) (by omega) (by omega) (fun w1 hb => OB.out w1 (below_step B3.out hb)) (fun w1 hb => OA.out w1 (below_step B3.out hb))).mono ?_
          rintro e w4 ⟨rfl, hB4⟩
          rw [d2]
          have B4 := Aside0.mk (below_step B3.out hB4)
          clear hB4 B2 B3 UV UN OA OB d1 d2
          obtain ⟨j, hj⟩ : ∃ j : Nat, z.tmod (ms.length : Int) = (j : Int) ∧ j < ms.length := ⟨z.toNat % ms.length, by rw [Int.tmod_eq_emod_of_nonneg hZ.1, ← Int.toNat_of_nonneg hZ.1]; simp, Nat.mod_lt _ (by omega)⟩
          obtain ⟨hj1, hj2⟩ := hj
          have hzw : wrap64 z = z := by unfold wrap64; omega
          have hjw : wrap64 (j : Int) = (j : Int) := by unfold wrap64; omega
          have hl0 : (ms.length : Int) ≠ 0 := by omega
          go_wp2_with fail
          have HC4 : Aside0 (Kd.C (Kd.raw 14) w4.drew Am ms.length (ms.map lett)) := ⟨Kd.C_drew (Kd.C_below HC.out B4.out)⟩
          have B5 : Aside0 (Below wr.heap.size wr w4.drew) := ⟨B4.out.drew⟩
          obtain ⟨i48, hi48, hzz48, hsz48, hbb48⟩ := info_parts info48
          have j0 : (0 : Int) ≤ (j : Int) := Int.natCast_nonneg j
          have j1 : (j : Int) ≤ ((ms.length : Nat) : Int) := Int.ofNat_le.2 (Nat.le_of_lt hj2)
          have j2 : (0 : Int) ≤ (j : Int) + 1 := Int.add_nonneg j0 (by decide)
          have j3 : (j : Int) + 1 ≤ ((ms.length : Nat) : Int) := Int.ofNat_le.2 hj2
          have hcut1 := cut_to (P := Try.prog) 49 48 .i64 Try.underlying49 hi48 Am ms.length cm (j : Int) j0 j1 hcm2.out
          have hcut2 := cut_from (P := Try.prog) 49 48 .i64 Try.underlying49 hi48 14 hsz48 Am ms.length cm ((j : Int) + 1) j2 j3
          clear hi48 hsz48 hzz48 hbb48 j0 j1 j2 j3
          rw [show ((j : Int) + 1).toNat = j + 1 from rfl] at hcut2
          simp only [Int.toNat_natCast] at hcut1
          have HT1 : Aside0 (Kd.C (Kd.raw 14) w4.drew Am j ((ms.take j).map lett)) := ⟨mail_take HC4.out j (Nat.le_of_lt hj2)⟩
          have HT2 : Aside0 (Kd.C (Kd.raw 14) w4.drew (if cm = j + 1 then Am else Am.map (·.add ((j + 1) * 14))) (ms.length - (j + 1)) ((ms.drop (j + 1)).map lett)) := ⟨mail_drop HC4.out cm (j + 1) hj2 hcm2.out⟩
          obtain ⟨Ax, hAx⟩ : ∃ Ax, Ax = (if cm = j + 1 then Am else Am.map (·.add ((j + 1) * 14))) := ⟨_, rfl⟩
          rw [← hAx] at hcut2 HT2
          have hj3 : wrap64 ((j : Int) + 1) = (j : Int) + 1 := Go.Proofs.Ytaogmbiepbhmoaa.A.wrap_small j (Nat.le_trans (Nat.le_of_lt hj2) hms40)
          clear hAx HC4 B4
          refine start_ (n := 11) (S := fun _ => True) (ds := []) #[false, false, false, false, false, false, false, false, false, false, false] (by kernel_rfl) rfl rfl trivial (fun hHeld => ?_)
          refine with_tabW balLaw.tab23 balLaw.bits23 (fun HT_ HW_ => ?_)
          generalize w4.drew = w6 at HT1 HT2 B5 hHeld ⊢
          have HW : Aside0 (Below w6.heap.size w6 w6) := ⟨Below.refl _ _⟩
          refine pure_ (i := 1) (N := some 131) (v := ?_) (a' := ?_) #[false, true, false, false, false, false, false, false, false, false, false] rfl rfl (any_of HT_.out (by kernel_rfl)) (fun _ _ _ h => h) (Or.inl ⟨by rfl, ?_⟩) ?_ ?_
          rotate_left
          · intro w'
            go_simp
            with_reducible rfl
          rotate_left
          · simp only [Act.put, List.setIfInBounds_toArray, List.set_cons_zero, List.set_cons_succ, i64_w, i32_w]
            rfl
          refine pure_ (i := 2) (N := some 132) (v := ?_) (a' := ?_) #[false, true, true, false, false, false, false, false, false, false, false] rfl rfl (any_of HT_.out (by kernel_rfl)) (fun _ _ _ h => h) (Or.inl ⟨by rfl, ?_⟩) ?_ ?_
          rotate_left
          · intro w'
            go_simp
            with_reducible rfl
          rotate_left
          · simp only [Act.put, List.setIfInBounds_toArray, List.set_cons_zero, List.set_cons_succ, i64_w, i32_w]
            rfl
          refine pure_ (i := 3) (N := some 133) (v := ?_) (a' := ?_) #[false, true, true, true, false, false, false, false, false, false, false] rfl rfl (any_of HT_.out (by kernel_rfl)) (fun _ _ _ h => h) (Or.inl ⟨by rfl, ?_⟩) ?_ ?_
          rotate_left
          · intro w'
            go_simp
            with_reducible rfl
          rotate_left
          · simp only [Act.put, List.setIfInBounds_toArray, List.set_cons_zero, List.set_cons_succ, i64_w, i32_w]
            rfl
          refine pure_ (i := 5) (N := some 135) (v := ?_) (a' := ?_) #[false, true, true, true, false, true, false, false, false, false, false] rfl rfl (any_of HT_.out (by kernel_rfl)) (fun _ _ _ h => h) (Or.inl ⟨by rfl, ?_⟩) ?_ ?_
          rotate_left
          · intro w'
            go_simp
            with_reducible rfl
          rotate_left
          · simp only [Act.put, List.setIfInBounds_toArray, List.set_cons_zero, List.set_cons_succ, i64_w, i32_w]
            rfl
          refine pure_ (i := 6) (N := some 136) (v := ?_) (a' := ?_) #[false, true, true, true, false, true, true, false, false, false, false] rfl rfl (any_of HT_.out (by kernel_rfl)) (fun _ _ _ h => h) (Or.inl ⟨by rfl, ?_⟩) ?_ ?_
          rotate_left
          · intro w'
            go_simp
            with_reducible rfl
          rotate_left
          · simp only [Act.put, List.setIfInBounds_toArray, List.set_cons_zero, List.set_cons_succ, i64_w, i32_w]
            rfl
          refine pure_ (i := 7) (N := some 137) (v := ?_) (a' := ?_) #[false, true, true, true, false, true, true, true, false, false, false] rfl rfl (any_of HT_.out (by kernel_rfl)) (fun _ _ _ h => h) (Or.inl ⟨by rfl, ?_⟩) ?_ ?_
          rotate_left
          · intro w'
            go_simp
            with_reducible rfl
          rotate_left
          · simp only [Act.put, List.setIfInBounds_toArray, List.set_cons_zero, List.set_cons_succ, i64_w, i32_w]
            rfl
          refine pure_ (i := 8) (N := some 138) (v := ?_) (a' := ?_) #[false, true, true, true, false, true, true, true, true, false, false] rfl rfl (any_of HT_.out (by kernel_rfl)) (fun _ _ _ h => h) (Or.inl ⟨by rfl, ?_⟩) ?_ ?_
          rotate_left
          · intro w'
            go_simp
            with_reducible rfl
          rotate_left
          · simp only [Act.put, List.setIfInBounds_toArray, List.set_cons_zero, List.set_cons_succ, i64_w, i32_w]
            rfl
          refine one_ (i := 0) (N := some 130) #[true, true, true, true, false, true, true, true, true, false, false] rfl rfl (one_of HT_.out (by kernel_rfl)) (by decide) (fun K hK => ?_)
          refine Kd.R_lit_step (Kd.raw 14) (w0 := w6) w6.heap.size 48 ?hg (N := 130) ?hd (xs := ([] : List (List Value))) (inner := []) (ok := fun _ => True) (okp := fun _ => False) ?hr ?hp (fun _ h => h.elim) trivial HW.out HW.out.size (by simp) ?_; (case hd => rfl); (case hg => rfl); (case hr => first | (go_simp; done) | (go_simp; rfl)); (case hp => exact Reps.none _ _)
          intro v130 w7 ho hb hg hnew
          replace HW := Aside0.mk hb
          have HA1 := Aside0.mk ho
          clear ho hb hg hnew
          refine hK.out _ _ trivial (fun hHeld => ?_)
          clear hK K
          refine norm_ (a' := ?_) ?_ ?_
          rotate_left
          · show Act.put _ (some 130) _ = _
            simp only [Act.put, List.setIfInBounds_toArray, List.set_cons_zero, List.set_cons_succ, i64_w, i32_w]
            rfl
          refine one_ (i := 4) (N := some 134) #[true, true, true, true, true, true, true, true, true, false, false] rfl rfl (one_of HT_.out (by kernel_rfl)) (by decide) (fun K hK => ?_)
          refine Kd.R_append_rows_step (Kd.raw 14) (Rr := (Kd.raw 14).K w6) (w0 := w6) w6.heap.size (by rfl) (.tmp 130) (.tmp 133) 49 48 (.agg #[.string ⟨#[]⟩, .string ⟨#[]⟩, .int .i64 0, .int .i64 0, .int .i64 0, .string ⟨#[]⟩, .string ⟨#[]⟩, .string ⟨#[]⟩, .int .i64 0, .int .i64 0, .string ⟨#[]⟩, .int .i64 0, .slice none 0 0, .slice none 0 0]) 192 rfl Try.underlying49 info48 rfl (by decide) (by decide) v130 ([] : List (List Value)) ((ms.take j).map lett) _ _ _ (fun _ => True) (fun _ => False) rfl rfl ?aO ?aR (fun _ _ h => h) (fun _ h => h.elim) (fun _ _ => trivial) HW.out HW.out.size ?aL ?_
          (case aO => exact HA1.out)
          (case aR => exact (Kd.C_below HT1.out HW.out))
          (case aL => exact row_small0 j (Nat.le_trans (Nat.le_of_lt hj2) hms40))
          intro v134 w8 ho hb hg hat
          replace HW := Aside0.mk hb
          have HA2 := Aside0.mk ho
          clear ho hb hg hat
          rw [List.nil_append] at HA2
          refine hK.out _ _ trivial (fun hHeld => ?_)
          clear hK K
          refine norm_ (a' := ?_) ?_ ?_
          rotate_left
          · show Act.put _ (some 134) _ = _
            simp only [Act.put, List.setIfInBounds_toArray, List.set_cons_zero, List.set_cons_succ, i64_w, i32_w]
            rfl
          refine one_ (i := 9) (N := some 139) #[true, true, true, true, true, true, true, true, true, true, false] rfl rfl (one_of HT_.out (by kernel_rfl)) (by decide) (fun K hK => ?_)
          refine Kd.R_append_rows_step (Kd.raw 14) (Rr := (Kd.raw 14).K w6) (w0 := w6) w6.heap.size (by rfl) (.tmp 134) (.tmp 138) 49 48 (.agg #[.string ⟨#[]⟩, .string ⟨#[]⟩, .int .i64 0, .int .i64 0, .int .i64 0, .string ⟨#[]⟩, .string ⟨#[]⟩, .string ⟨#[]⟩, .int .i64 0, .int .i64 0, .string ⟨#[]⟩, .int .i64 0, .slice none 0 0, .slice none 0 0]) 192 rfl Try.underlying49 info48 rfl (by decide) (by decide) v134 ((ms.take j).map lett) ((ms.drop (j + 1)).map lett) _ _ _ (fun _ => True) (fun _ => False) rfl rfl ?aO ?aR (fun _ _ h => h) (fun _ h => h.elim) (fun _ _ => trivial) HW.out HW.out.size ?aL ?_
          (case aO => exact HA2.out)
          (case aR => exact (Kd.C_below HT2.out HW.out))
          (case aL => exact row_small1 ms j hms40)
          intro v139 w9 ho hb hg hat
          replace HW := Aside0.mk hb
          have HA3 := Aside0.mk ho
          clear ho hb hg hat
          rw [← List.map_append] at HA3
          refine hK.out _ _ trivial (fun hHeld => ?_)
          clear hK K
          refine norm_ (a' := ?_) ?_ ?_
          rotate_left
          · show Act.put _ (some 139) _ = _
            simp only [Act.put, List.setIfInBounds_toArray, List.set_cons_zero, List.set_cons_succ, i64_w, i32_w]
            rfl
          refine pure_ (i := 10) (N := some 18) (v := ?_) (a' := ?_) #[true, true, true, true, true, true, true, true, true, true, true] rfl rfl (any_of HT_.out (by kernel_rfl)) (fun _ _ _ h => h) (Or.inl ⟨by rfl, ?_⟩) ?_ ?_
          rotate_left
          · intro w'
            go_simp
            with_reducible rfl
          rotate_left
          · simp only [Act.put, List.setIfInBounds_toArray, List.set_cons_zero, List.set_cons_succ, i64_w, i32_w]
            rfl
          refine done_ (done_of HT_.out (by kernel_rfl)) ?_
          obtain ⟨A9, c9, e9, _, hC9⟩ := Kd.R_reads HA3.out
          rw [List.length_map] at e9 hC9
          subst e9
          have HC9 := Aside0.mk hC9
          have B9' : Aside0 (Below wr.heap.size wr w9) := ⟨below_step B5.out HW.out⟩
          have hlen : (ms.take j ++ ms.drop (j + 1)).length ≤ 40 := less_small ms j hms41
          have hless := Aside0.mk (HS.out.less j hj2)
          have hsm9 : Aside0 (∀ q ∈ ms.take j ++ ms.drop (j + 1), 0 ≤ q.2 ∧ q.2 ≤ 8589934592) := ⟨fun q hq => hsm.out q (by rcases List.mem_append.1 hq with h | h; exact List.mem_of_mem_take h; exact List.mem_of_mem_drop h)⟩
          generalize ms.take j ++ ms.drop (j + 1) = ml at HC9 hlen hless hsm9 ⊢
          clear hC9 HA1 HA2 HA3 HT1 HT2 hHeld HT_ HW_ hcut1 hcut2 B5 HW hj1 hzw hjw hj3 hl0 hln hms40 hms41 hs0 ht0
          go_wp2_with fail
          refine (balanced_calls w9 ⟨pa, 0, none⟩ ⟨pb, 0, none⟩ aN aV EUR S (-T) true true A9 c9 ml HC9.out (.inr rfl) hsm9.out hlen hS9.out hT9.out (fun w1 hb => BV.out w1 (below_step B9'.out hb)) (fun w1 hb => BN.out w1 (below_step B9'.out hb))).mono ?_
          rintro e w10 ⟨rfl, hB10⟩
          rw [hless.out]
          have BX : Aside0 (Below w.heap.size w w10) := ⟨below_step HB.out (below_step B9'.out hB10)⟩
          clear hB10 BV BN HC9
          by_cases hj0 : j = 0
          · subst hj0
            go_wp2_with fail
            go_ret
            exact ⟨rfl, BX.out⟩
          · have g1 : decide (j = 0) = false := by rw [decide_eq_false_iff_not]; exact hj0
            have g2 : ((j : Int) == 0) = false := beq_eq_false_iff_ne.2 (fun h => hj0 (Int.natCast_eq_zero.1 h))
            rw [g1]
            go_wp2_with fail
            go_ret
            exact ⟨rfl, BX.out⟩
    · have e1 : decide ((20 : Int) < (l1.length : Int)) = true := by rw [decide_eq_true_eq]; omega
      go_enter Try.func6, Try.ntmps6
      go_wp2_with fail
      refine (awake_calls _).mono ?_
      rintro e w1 ⟨rfl, hB1⟩
      replace hB1 := Aside0.mk hB1
      go_wp2_with fail
      refine (awake_calls _).mono ?_
      rintro e w4 ⟨rfl, hB4⟩
      replace hB4 := Aside0.mk (hB1.out.trans (hB4.mono hB1.out.size))
      go_wp2_with fail
      go_ret
      exact ⟨rfl, hB4.out⟩
  · have e0 : decide ((20 : Int) < (l0.length : Int)) = true := by rw [decide_eq_true_eq]; omega
    go_enter Try.func6, Try.ntmps6
    go_wp2_with fail
    refine (awake_calls _).mono ?_
    rintro e w1 ⟨rfl, hB1⟩
    replace hB1 := Aside0.mk hB1
    go_wp2_with fail
    refine (awake_calls _).mono ?_
    rintro e w4 ⟨rfl, hB4⟩
    replace hB4 := Aside0.mk (hB1.out.trans (hB4.mono hB1.out.size))
    go_wp2_with fail
    go_ret
    exact ⟨rfl, hB4.out⟩
end Go.Proofs.Ytaogmbiepbhmoaa.matchBalances

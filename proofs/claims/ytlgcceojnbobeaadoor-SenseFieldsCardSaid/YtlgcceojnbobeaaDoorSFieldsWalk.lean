/- The law of the fields, walked. -/
import Derived.Test.YtlgcceojnbobeaaDoorKind
import Derived.Test.YtlgcceojnbobeaaDoorNumRef
import Derived.Test.YtlgcceojnbobeaaDoorAwake
namespace Go.Proofs.YtlgcceojnbobeaaDoor.A
open Go.RowKit Go.Shelf Go.Proofs.YtlgcceojnbobeaaDoorW.PrintWords Go.Proofs.YtlgcceojnbobeaaDoorW.PrintLast Go.Proofs.YtlgcceojnbobeaaDoorW.PrintMore
set_option linter.unusedVariables false
set_option linter.unusedSimpArgs false

theorem drawn_below {w w' : World} (h : Drawn0 w w') : Below w.heap.size w w' := by
  exact h.below
theorem strs_K (w : World) (x : ByteArray) : Kd.string.K w x [.string x] := rfl
theorem strs_C {w : World} {b : Nat} (zs : List ByteArray) (hl : zs.length ≤ 9223372036854775807) (h : w.heap[b]? = some (.cells (zs.map Value.string).toArray 9 (0, 0))) : Kd.C Kd.string w (some ⟨b, 0, none⟩) zs.length zs := by
  refine ⟨rfl, hl, fun _ => ⟨_, rfl, fun j p hp => ⟨[.string p], rfl, strs_K w p, fun i u hu => ?_⟩⟩⟩
  obtain ⟨rfl, rfl⟩ : i = 0 ∧ u = .string p := by
    cases i with
    | zero => exact ⟨rfl, by simpa using hu.symm⟩
    | succ i => simp at hu
  have e : (Addr.mk b 0 none).add (j * Kd.string.sz + 0) = ⟨b, j, none⟩ := by
    show (Addr.mk b 0 none).add (j * 1 + 0) = _
    unfold Addr.add
    split
    · rename_i h0
      have : j = 0 := by omega
      subst this
      rfl
    · simp
  rw [e, blk_cell h j]
  simp [hp]
/-- What sense.Fields answers at any kind. -/
def FX (k : Int) : List ByteArray := if k = 0 ∨ k = 1 ∨ k = 2 ∨ k = 3 ∨ k = 4 ∨ k = 5 then FP k else []
theorem FX_len (k : Int) : (FX k).length ≤ 9 := by
  unfold FX
  split
  · rename_i h; exact fields_len k h
  · simp
theorem fx_calls (k : Int) (w : World) (hg : Glob w) : Calls Tryd.prog 13 #[.int .i64 k] w fun e w' => ∃ A c, e = .returned (.slice A (FX k).length c) ∧ (FX k).length ≤ c ∧ Kd.C Kd.string w' A (FX k).length (FX k) ∧ Below w.heap.size w w' := by
  by_cases hk : Kind6 k
  · have e : FX k = FP k := if_pos hk
    rw [e]
    refine (fields_calls k hk w hg).mono ?_
    rintro e w' ⟨b, c, rfl, hl, hb, hB⟩
    exact ⟨_, c, rfl, hl, strs_C _ (by have := fields_len k hk; omega) hb, hB⟩
  · have e : FX k = [] := if_neg hk
    rw [e]
    refine (fields_calls_none k hk w).mono ?_
    rintro e w' ⟨rfl, rfl⟩
    exact ⟨none, 0, rfl, Nat.le_refl _, ⟨rfl, by simp, fun h => absurd h (by simp)⟩, Below.refl _ _⟩
theorem fx_ref (k : Int) : supercargoref29_Fields.f k = some (FX k) := by
  unfold FX
  split
  · rename_i h; exact fields_six k h
  · rename_i h; exact fields_none k h
/-- The kind of a name, as the law finds it. -/
def wantK : Nat → ByteArray → Int × Bool
  | 0, _ => (0, false)
  | k + 1, s => if KL.getD k ByteArray.empty = s then ((k : Int), true) else wantK k s
theorem idx_none {s : ByteArray} (h : ¬ s ∈ KL) : Lib.idxOfS KL s = -1 := by
  have h2 := Lib.idxOfS_miss KL 6 s (fun j hj e => h (by
    rw [← e]
    have : j < KL.length := hj
    simp [List.getD, this]))
  exact h2
theorem want_kind (s : ByteArray) : wantK 6 s = (kindP s, isKind s) := by
  by_cases h : s ∈ KL
  · unfold KL at h
    simp only [List.mem_cons, List.not_mem_nil, or_false] at h
    rcases h with rfl | rfl | rfl | rfl | rfl | rfl <;> decide +kernel
  · have e : wantK 6 s = (0, false) := by
      have hn : ∀ k, k < 6 → KL.getD k ByteArray.empty ≠ s := by
        intro k hk e
        apply h
        rw [← e]
        have : k < KL.length := hk
        simp [List.getD, this]
      simp only [wantK]
      rw [if_neg (hn 5 (by omega)), if_neg (hn 4 (by omega)), if_neg (hn 3 (by omega)), if_neg (hn 2 (by omega)), if_neg (hn 1 (by omega)), if_neg (hn 0 (by omega))]
    rw [e]
    unfold kindP isKind
    rw [idx_none h]
    rfl
set_option maxHeartbeats 8000000 in
set_option maxRecDepth 100000 in
theorem sfields_long (k : Int) (s : ByteArray) (hs : s.size ≤ 9223372036854775807) (hl : 100 < s.size) (w : World) (hg : Glob w) :
    Calls Tryd.prog 4 #[.int .i64 k, .string s] w fun e w' => e = .returned (.bool true) ∧ Below w.heap.size w w' := by
  have HA := Aside0.mk (awake_calls w hg)
  clear hg
  go_enter Tryd.func4, Tryd.ntmps4
  go_wp2_with fail
  refine HA.out.mono ?_
  rintro e w1 ⟨rfl, hB1⟩
  have HB := Aside0.mk hB1
  clear hB1 HA
  go_wp2_with fail
  go_ret
  exact ⟨rfl, HB.out⟩
set_option maxHeartbeats 8000000 in
set_option maxRecDepth 100000 in
theorem sfields_short (k : Int) (s : ByteArray) (hl : s.size ≤ 100) (w : World) (hg : Glob w) :
    Calls Tryd.prog 4 #[.int .i64 k, .string s] w fun e w' => e = .returned (.bool true) ∧ Below w.heap.size w w' := by
  obtain ⟨q1, h1⟩ := (value_ev s (by omega) k).rounds
  obtain ⟨q2, h2⟩ := (type_ev s).rounds
  have hfx := FX_len k
  obtain ⟨q3, h3⟩ := (texts_ev (FX k) (by omega)).rounds
  have HA := Aside0.mk fun w2 (hb : Below w.heap.size w w2) => awake_calls w2 (hg.below hb)
  have HK := Aside0.mk fun w2 => kind_calls s w2
  have HV := Aside0.mk fun w2 (hb : Below w.heap.size w w2) => value_calls s k (by omega) w2 (hg.below hb)
  have HVR := Aside0.mk fun w2 => supercargoref29_Value.calls q1 s k (valP s.data.toList k).1 (valP s.data.toList k).2 w2 h1
  have HF := Aside0.mk fun w2 (hb : Below w.heap.size w w2) => fx_calls k w2 (hg.below hb)
  have HFR := Aside0.mk fun w2 => supercargoref29_Fields.calls k _ w2 (fx_ref k)
  have HTX := Aside0.mk fun w2 A c A2 c2 (hC : Kd.C Kd.string w2 A (FX k).length (FX k)) (hl : (FX k).length ≤ c) (hC2 : Kd.C Kd.string w2 A2 (FX k).length (FX k)) (hl2 : (FX k).length ≤ c2) => supercargoref17_Texts.calls q3 A c (FX k) A2 c2 (FX k) true w2 hC hl hC2 hl2 h3
  have HTY := Aside0.mk fun w2 (hb : Below w.heap.size w w2) => type_calls s w2 (hg.below hb)
  have HTR := Aside0.mk fun w2 => supercargoref29_Type.calls q2 s _ w2 h2
  have HWK := Aside0.mk (want_kind s)
  have HL6 : Aside0 (∀ j, j < 6 → KL.length = 6) := ⟨fun _ _ => rfl⟩
  generalize FX k = zs at HF HFR HTX
  generalize valP s.data.toList k = vp at HV HVR
  generalize typeP s = ty at HTY HTR
  generalize kindP s = kq at HK HWK
  generalize isKind s = kb at HK HWK
  clear h1 h2 h3 hfx hg
  obtain ⟨v1, v2⟩ := vp
  simp only at HV HVR
  go_enter Tryd.func4, Tryd.ntmps4
  go_wp2_with fail
  refine (HK.out _).mono ?_
  rintro e w1 ⟨rfl, hB1⟩
  have hblk : w1.heap[w.heap.size]? = some (.cells (KL.map Value.string).toArray 9 (0, 0)) := (hB1.block _ (by simp)).trans (heap_alloc_new w _)
  have HN := Aside0.mk hblk
  have HB := Aside0.mk (((Below.refl w.heap.size w).alloc (Nat.le_refl _) _).trans (hB1.mono (by simp)))
  clear hB1 HK hblk
  go_wp2_with fail
  go_loopw [8, 9, 10, 11, 28] (fun a b i x j wr => ∃ m : Nat, m ≤ 6 ∧ j = .int .i64 m ∧ a = .int .i64 (wantK m s).1 ∧ b = .bool (wantK m s).2 ∧ Aside0 (Below w.heap.size w wr ∧ wr.heap[w.heap.size]? = some (.cells (KL.map Value.string).toArray 9 (0, 0))))
    (fun _ _ _ _ j _ => 6 - (RowKit.intOf j).toNat)
  case atStart => exact ⟨0, by omega, rfl, rfl, rfl, ⟨HB.out, HN.out⟩⟩
  case round =>
    obtain ⟨m, hm, rfl, rfl, rfl, HX⟩ := hrel
    clear HB HN
    by_cases hlt : m < 6
    · have HE : Aside0 (wantK (m + 1) s = if KL.getD m ByteArray.empty = s then ((m : Int), true) else wantK m s) := ⟨rfl⟩
      have hcell : wr.cell? ⟨w.heap.size, m, none⟩ = some (.string (KL.getD m ByteArray.empty)) := by
        rw [blk_cell HX.out.2 m]
        have : m < KL.length := hlt
        simp [this]
      generalize KL.getD m ByteArray.empty = y at HE hcell
      by_cases hy : y = s
      · have HE1 : Aside0 (wantK (m + 1) s = ((m : Int), true)) := ⟨HE.out.trans (if_pos hy)⟩
        subst hy
        clear HE
        generalize wantK m y = p at *
        go_wp2_with fail
        go_roundw
        case rel => exact ⟨m + 1, by omega, by go_num, by rw [HE1.out], by rw [HE1.out], HX⟩
        case measure => simp [RowKit.intOf]; omega
      · have HE1 : Aside0 (wantK (m + 1) s = wantK m s) := ⟨HE.out.trans (if_neg hy)⟩
        have hyb : (y.toList == s.toList) = false := eqT hy
        clear HE hy
        generalize wantK m s = p at HE1 ⊢
        go_wp2_with fail
        go_roundw
        case rel => exact ⟨m + 1, by omega, by go_num, by rw [HE1.out], by rw [HE1.out], HX⟩
        case measure => simp [RowKit.intOf]; omega
    · obtain rfl : m = 6 := by omega
      rw [HWK.out]
      have HB := Aside0.mk HX.out.1
      clear hlt hm HX HWK HL6
      go_wp2_with fail
      refine (HV.out _ HB.out).mono ?_
      rintro e w2 ⟨rfl, hB2⟩
      replace HB := Aside0.mk (HB.out.trans (hB2.mono HB.out.size))
      clear hB2 HV
      go_wp2_with fail
      refine (HVR.out _).mono ?_
      rintro e w3 ⟨rfl, hB3⟩
      have HBd := Aside0.mk (HB.out.trans (hB3.mono HB.out.size))
      clear hB3 HVR HB
      go_wp2_with fail
      refine (HF.out _ HBd.out).mono ?_
      rintro e w7 ⟨A, c, rfl, hl, hC, hB7⟩
      replace HBd := Aside0.mk (HBd.out.trans (hB7.mono HBd.out.size))
      have HC1 := Aside0.mk hC
      have HL1 := Aside0.mk hl
      clear hB7 hC hl HF
      go_wp2_with fail
      refine (HFR.out w7).mono ?_
      rintro e w8 ⟨v, rfl, hR, hB8⟩
      obtain ⟨A2, c2, rfl, hl2, hC2⟩ := Kd.R_reads hR
      replace HC1 := Aside0.mk (Kd.C_below HC1.out hB8)
      have HT1 := Aside0.mk (HTX.out w8 A c A2 c2 HC1.out HL1.out hC2 hl2)
      replace HBd := Aside0.mk (HBd.out.trans (hB8.mono HBd.out.size))
      clear hB8 hR hl2 hC2 HC1 HL1 HFR HTX
      go_wp2_with fail
      refine HT1.out.mono ?_
      rintro e w9 ⟨rfl, hD9⟩
      replace HBd := Aside0.mk (HBd.out.trans ((drawn_below hD9).mono HBd.out.size))
      clear hD9 HT1
      go_wp2_with fail
      refine (HTY.out w9 HBd.out).mono ?_
      rintro e w10 ⟨rfl, hB10⟩
      replace HBd := Aside0.mk (HBd.out.trans (hB10.mono HBd.out.size))
      clear hB10 HTY
      go_wp2_with fail
      refine (HTR.out w10).mono ?_
      rintro e w11 ⟨rfl, hB11⟩
      replace HBd := Aside0.mk (HBd.out.trans (hB11.mono HBd.out.size))
      clear hB11 HTR
      go_wp2_with fail
      refine (HA.out w11 HBd.out).mono ?_
      rintro e w12 ⟨rfl, hB12⟩
      replace HBd := Aside0.mk (HBd.out.trans (hB12.mono HBd.out.size))
      clear hB12 HA
      go_wp2_with fail
      go_ret
      exact ⟨rfl, HBd.out⟩
theorem sfields_walk (k : Int) (s : ByteArray) (hs : s.size ≤ 9223372036854775807) (w : World) (hg : Glob w) :
    Calls Tryd.prog 4 #[.int .i64 k, .string s] w fun e w' => e = .returned (.bool true) ∧ Below w.heap.size w w' := by
  by_cases h : s.size ≤ 100
  · exact sfields_short k s h w hg
  · exact sfields_long k s hs (by omega) w hg
end Go.Proofs.YtlgcceojnbobeaaDoor.A

/- sense.cases walked: All. -/
import Derived.Test.YtlgcceojnbobeaaDoorCasesB
namespace Go.Proofs.YtlgcceojnbobeaaDoor.A
open Go.RowKit Go.Shelf Go.Proofs.YtlgcceojnbobeaaDoorW.PrintWords Go.Proofs.YtlgcceojnbobeaaDoorW.PrintLast Go.Proofs.YtlgcceojnbobeaaDoorW.PrintMore
set_option linter.unusedVariables false
set_option linter.unusedSimpArgs false

theorem cross_take (out xs : List (List Core)) (j : Nat) (h : j < out.length) : cross (out.take (j + 1)) xs = cross (out.take j) xs ++ xs.map (fun b => out.getD j [] ++ b) := by
  unfold cross
  rw [List.take_succ_eq_append_getElem h, List.flatMap_append]
  simp [h]
/-- What has been gathered in the j-th row's m-th round. -/
def mid (rows rows1 : List (List At)) (j m : Nat) : List (List Core) := cross ((cr rows).take j) (cr rows1) ++ ((cr rows1).take m).map (fun b => (cr rows).getD j [] ++ b)
theorem mid_zero (rows rows1 : List (List At)) (j : Nat) : mid rows rows1 j 0 = cross ((cr rows).take j) (cr rows1) := by simp [mid]
theorem cr_get (rows : List (List At)) (j : Nat) (h : j < rows.length) : (cr rows).getD j [] = (rd_Row rows j).map At.c := by
  simp [cr, rd_Row, h]
theorem mid_succ (rows rows1 : List (List At)) (j m : Nat) (hj : j < rows.length) (hm : m < rows1.length) : mid rows rows1 j (m + 1) = mid rows rows1 j m ++ cr [rd_Row rows j ++ rd_Row rows1 m] := by
  have h1 : m < (cr rows1).length := by rw [cr_length]; exact hm
  unfold mid
  rw [List.take_succ_eq_append_getElem h1, List.map_append, ← List.append_assoc]
  congr 1
  have h2 := cr_get rows1 m hm
  rw [List.getD_eq_getElem?_getD, List.getElem?_eq_getElem h1, Option.getD_some] at h2
  rw [List.map_cons, List.map_nil, h2, cr_get rows j hj]
  simp [cr]
theorem mid_end (rows rows1 : List (List At)) (j : Nat) (hj : j < rows.length) : mid rows rows1 j rows1.length = cross ((cr rows).take (j + 1)) (cr rows1) := by
  rw [cross_take _ _ _ (by rw [cr_length]; exact hj)]
  unfold mid
  have e : (cr rows1).take rows1.length = cr rows1 := by rw [← cr_length rows1, List.take_length]
  rw [e]
theorem mid_len (rows rows1 : List (List At)) (j m : Nat) (hj : j < rows.length) (hm : m ≤ rows1.length) : (mid rows rows1 j m).length ≤ rows.length * rows1.length := by
  unfold mid
  rw [List.length_append, cross_length, List.length_map, List.length_take, List.length_take, cr_length, cr_length, Nat.min_eq_left (by omega), Nat.min_eq_left hm]
  have : (j + 1) * rows1.length ≤ rows.length * rows1.length := Nat.mul_le_mul_right _ hj
  rw [Nat.succ_mul] at this
  omega
theorem pow30 {n : Nat} (h : n ≤ 30) : 2 ^ n ≤ 1073741824 := by
  have : 2 ^ n ≤ 2 ^ 30 := Nat.pow_le_pow_right (by decide) h
  simpa using this
theorem all_len (l : List S24) (k : Nat) (hl : nodesL l ≤ 30) : (allP (l.take k) [[]]).length ≤ 1073741824 := by
  have h1 := allP_len (l.take k) [[]]
  have h2 := pow30 (Nat.le_trans (nodesL_take l k) hl)
  simp only [List.length_cons, List.length_nil] at h1
  omega
theorem all_row (l : List S24) (k : Nat) (hl : nodesL l ≤ 30) (rows : List (List At)) (h : cr rows = allP (l.take k) [[]]) (j : Nat) : (rd_Row rows j).length ≤ 30 := by
  by_cases hj : j < rows.length
  · have e := cr_get rows j hj
    have h1 : (cr rows).getD j [] ∈ allP (l.take k) [[]] := by
      rw [← h, List.getD_eq_getElem?_getD, List.getElem?_eq_getElem (by rw [cr_length]; exact hj), Option.getD_some]
      exact List.getElem_mem _
    have h2 := allP_row (l.take k) [[]] 0 (fun a ha => by rw [List.mem_singleton.1 ha]; simp) _ h1
    have h3 := nodesL_take l k
    rw [e, List.length_map] at h2
    omega
  · simp [rd_Row, hj]
theorem kid_row (x : S24) (hl : nodes x ≤ 30) (rows : List (List At)) (h : cr rows = casesP x) (j : Nat) : (rd_Row rows j).length ≤ 30 := by
  by_cases hj : j < rows.length
  · have e := cr_get rows j hj
    have h1 : (cr rows).getD j [] ∈ casesP x := by
      rw [← h, List.getD_eq_getElem?_getD, List.getElem?_eq_getElem (by rw [cr_length]; exact hj), Option.getD_some]
      exact List.getElem_mem _
    have h2 := casesP_row x _ h1
    rw [e, List.length_map] at h2
    omega
  · simp [rd_Row, hj]
/-- What stands in the innermost loop. -/
structure Inn (wo : World) (a b : Nat) (A1 : Option Addr) (c1 : Nat) (rows1 : List (List At)) (v : Value) (nxt : List (List At)) (wi : World) : Prop where
  one : kRow.R 22 wi a (fun k => a ≤ k ∧ k < b) (.slice A1 rows1.length c1) rows1
  far : ∀ k, v.ownBlock = some k → k < a ∨ b ≤ k
  nxt : kRow.R 22 wi wo.heap.size (fun _ => True) v nxt
  below : Below wo.heap.size wo wi
  size : b ≤ wi.heap.size
theorem Inn.to {wo : World} {a b : Nat} {A1 : Option Addr} {c1 : Nat} {rows1 : List (List At)} {v : Value} {nxt : List (List At)} {wi w' : World} (h : Inn wo a b A1 c1 rows1 v nxt wi) (hb : Below wi.heap.size wi w') : Inn wo a b A1 c1 rows1 v nxt w' :=
  ⟨Kd.R_below h.one hb, h.far, Kd.R_below h.nxt hb, h.below.trans (hb.mono h.below.size), Nat.le_trans h.size hb.size⟩
theorem Inn.app {wo : World} {a b : Nat} {A1 : Option Addr} {c1 : Nat} {rows1 : List (List At)} {v v1 : Value} {nxt nxt1 : List (List At)} {wi w' : World} (h : Inn wo a b A1 c1 rows1 v nxt wi) (h1 : kRow.R 22 w' wo.heap.size (fun _ => True) v1 nxt1) (h2 : Below wo.heap.size wo w') (h3 : wi.grownBy w' v.ownBlock) (h4 : v1.ownBlock = v.ownBlock ∨ ∃ b, v1.ownBlock = some b ∧ wi.heap.size ≤ b) (hs : wi.heap.size ≤ w'.heap.size) : Inn wo a b A1 c1 rows1 v1 nxt1 w' :=
  ⟨Kd.R_grown h.one h3 (fun k hk e => by have := h.far k e.symm; omega), fun k hk => by
    rcases h4 with h4 | ⟨q, hq, hle⟩
    · exact h.far k (h4 ▸ hk)
    · rw [hq] at hk; cases hk; exact .inr (Nat.le_trans h.size hle), h1, h2, Nat.le_trans h.size hs⟩
/-- The two rows that are joined. -/
theorem pair_C {W : World} {g : Nat} {A B : Option Addr} {c d : Nat} {xs ys : List At} (hb : W.heap[g]? = some (.cells #[.slice A xs.length c, .slice B ys.length d] 22 (0, 0))) (hA : Kd.C kAt W A xs.length xs) (hB : Kd.C kAt W B ys.length ys) (hc : xs.length ≤ c) (hd : ys.length ≤ d) : Kd.C kRow W (some ⟨g, 0, none⟩) 2 [xs, ys] :=
  lit_reads (kRow.K W) W g [.slice A xs.length c, .slice B ys.length d] [xs, ys] hb rfl (by simp) (fun j x v hx hv => by
    match j with
    | 0 => simp only [List.getElem?_cons_zero, Option.some.injEq] at hx hv; subst hx hv; exact ⟨A, c, rfl, hc, hA⟩
    | 1 => simp only [List.getElem?_cons_succ, List.getElem?_cons_zero, Option.some.injEq] at hx hv; subst hx hv; exact ⟨B, d, rfl, hd, hB⟩
    | j + 2 => simp at hx)
theorem single_reads {W : World} {base N g : Nat} {v : Value} {xs : List At} (hb : W.heap[g]? = some (.cells #[v] 22 (0, 0))) (h : kAt.R 24 W N (fun _ => True) v xs) (hN : base ≤ N) : ReadsRow (kRow.M W base (fun k => N ≤ k)) 1 W (some ⟨g, 0, none⟩) 1 [xs] :=
  lit_reads (kRow.M W base (fun k => N ≤ k)) W g [v] [xs] hb rfl (by simp) (fun j x u hx hu => by
    match j with
    | 0 =>
      simp only [List.getElem?_cons_zero, Option.some.injEq] at hx hu
      subst hx hu
      exact ⟨_, rfl, Kd.R_lower (Kd.R_mono (Kd.R_bound h) (fun k hk => hk.2.1)) hN⟩
    | j + 1 => simp at hx)
theorem all_take_eq (l : List S24) (k : Nat) (h : k < l.length) (rows rows1 : List (List At)) (x : S24) (hx : x = rd_T24 l k) (h0 : cr rows = allP (l.take k) [[]]) (h1 : cr rows1 = casesP x) : allP (l.take (k + 1)) [[]] = cross (cr rows) (casesP x) := by
  rw [allP_take _ _ _ h, h0, hx]
  simp [rd_T24, h]
theorem mid_bound (l : List S24) (k : Nat) (h : k < l.length) (hl : nodesL l ≤ 30) (rows rows1 : List (List At)) (x : S24) (hx : x = rd_T24 l k) (h0 : cr rows = allP (l.take k) [[]]) (h1 : cr rows1 = casesP x) (j m : Nat) (hj : j < rows.length) (hm : m ≤ rows1.length) (nxt : List (List At)) (hn : cr nxt = mid rows rows1 j m) : (nxt.length + 1) * 24 ≤ 140737488355328 := by
  have e1 := all_take_eq l k h rows rows1 x hx h0 h1
  have e2 := all_len l (k + 1) hl
  have e3 := mid_len rows rows1 j m hj hm
  rw [e1, cross_length, cr_length, ← h1, cr_length] at e2
  rw [← hn, cr_length] at e3
  omega
set_option maxHeartbeats 8000000 in
set_option maxRecDepth 100000 in
theorem cases_all (p n : Int) (f t : ByteArray) (l : List S24) (A : Option Addr) (c : Nat) (w : World) (hC : Kd.C k24 w A l.length l) (hc : l.length ≤ c)
    (IH : ∀ (x : S24) (A1 : Option Addr) (c1 : Nat) (w1 : World), x ∈ l → Kd.C k24 w1 A1 x.f5.length x.f5 → x.f5.length ≤ c1 → Calls Tryd.prog 22 #[.agg #[.int .i64 x.f0, .int .i64 x.f1, .string x.f2, .string x.f3, .int .i64 x.f4, .slice A1 x.f5.length c1]] w1 fun e w' => ∃ v rows, e = .returned v ∧ kRow.R 22 w' w1.heap.size (fun _ => True) v rows ∧ cr rows = casesP x ∧ Below w1.heap.size w1 w') (hlen : nodesL l ≤ 30) :
    Calls Tryd.prog 22 #[.agg #[.int .i64 0, .int .i64 p, .string f, .string t, .int .i64 n, .slice A l.length c]] w fun e w' => ∃ v rows, e = .returned v ∧ kRow.R 22 w' w.heap.size (fun _ => True) v rows ∧ cr rows = allP l [[]] ∧ Below w.heap.size w w' := by
  have hmax : l.length ≤ 9223372036854775807 := hC.2.1
  have HF := Aside0.mk fun w1 hb => front w w1 ⟨0, f, t, n⟩ p (.slice A l.length c) hb
  have HQ := Aside0.mk fun o o' => asks 0 p n f t l A c w _ hC hc (two_below w o o') (by omega)
  have HI := Aside0.mk IH
  have HC := Aside0.mk hC
  have HL := Aside0.mk hlen
  unfold nodeC at HF
  simp only at HF
  clear hC hc IH hlen
  go_enter Tryd.func22, Tryd.ntmps22
  go_wp2_with fail
  refine (HQ.out _ _).mono ?_
  rintro e w1 ⟨rfl, hB1⟩
  have HF1 := Aside0.mk (HF.out w1 hB1)
  have a0 := HF1.out.box.c0
  have a5 := HF1.out.box.c5
  have HB1 := Aside0.mk HF1.out.below
  have HO1 := Aside0.mk HF1.out.out
  simp only at a0 a5
  clear HF HQ hB1 HF1
  go_wp2_with fail
  go_loopw [3, 43] (fun v i wr => ∃ (k : Nat) (rows : List (List At)), k ≤ l.length ∧ i = .int .i64 k ∧ Aside0 (kRow.R 22 wr w.heap.size (fun _ => True) v rows) ∧ Aside0 (cr rows = allP (l.take k) [[]]) ∧ Aside0 (Below w.heap.size w wr))
    (fun _ i _ => l.length - (RowKit.intOf i).toNat)
  case atStart => exact ⟨0, [[]], Nat.zero_le _, rfl, HO1, ⟨rfl⟩, HB1⟩
  case round =>
    obtain ⟨k, rows, hk, rfl, HR, HA, HB⟩ := hrel
    by_cases hlt : k < l.length
    · obtain ⟨ad, A5, c5, rfl, h0, h1, h2, h3, h4, h5, h6, h7⟩ := at_T24 (Kd.C_below HC.out HB.out) (k : Int) (by omega) (by omega)
      simp only [Int.toNat_natCast] at h0 h1 h2 h3 h4 h5
      have hx : Aside0 (rd_T24 l k = l[k]) := ⟨by simp [rd_T24, hlt]⟩
      have HM := Aside0.mk (List.getElem_mem hlt)
      rw [← hx.out] at HM
      obtain ⟨x, hxx⟩ : ∃ x, x = rd_T24 l k := ⟨_, rfl⟩
      rw [← hxx] at h0 h1 h2 h3 h4 h5 h6 h7 HM
      replace h6 := Aside0.mk h6
      replace h7 := Aside0.mk h7
      have HXX := Aside0.mk hxx
      obtain ⟨A3, c3, rfl, hl3, hc3⟩ := Kd.R_reads HR.out
      replace hl3 := Aside0.mk hl3
      have hm3 : rows.length ≤ 9223372036854775807 := hc3.2.1
      have HC3 := Aside0.mk hc3
      clear hx hxx a0 a5 HO1 HB1 hc3
      have FB : Aside0 (Below wr.heap.size wr (wr.alloc (.cells #[.int .i64 x.f0, .int .i64 x.f1, .string x.f2, .string x.f3, .int .i64 x.f4, .slice A5 x.f5.length c5] 24))) := ⟨below_alloc (Below.refl _ _) _⟩
      have FX : Aside0 (∀ w2, Below (wr.alloc (.cells #[.int .i64 x.f0, .int .i64 x.f1, .string x.f2, .string x.f3, .int .i64 x.f4, .slice A5 x.f5.length c5] 24)).heap.size (wr.alloc (.cells #[.int .i64 x.f0, .int .i64 x.f1, .string x.f2, .string x.f3, .int .i64 x.f4, .slice A5 x.f5.length c5] 24)) w2 → Box24 w2 wr.heap.size (nCore x) x.f1 (.slice A5 x.f5.length c5)) := ⟨fun w2 hb => (box_at wr x.f0 x.f1 x.f4 x.f2 x.f3 (.slice A5 x.f5.length c5)).below hb⟩
      have HX : Aside0 (∀ w2, Below (wr.alloc (.cells #[.int .i64 x.f0, .int .i64 x.f1, .string x.f2, .string x.f3, .int .i64 x.f4, .slice A5 x.f5.length c5] 24)).heap.size (wr.alloc (.cells #[.int .i64 x.f0, .int .i64 x.f1, .string x.f2, .string x.f3, .int .i64 x.f4, .slice A5 x.f5.length c5] 24)) w2 → _) := ⟨fun w2 hb => HI.out x A5 c5 w2 HM.out (Kd.C_below h7.out (FB.out.trans (hb.mono FB.out.size))) h6.out⟩
      replace HC3 : Aside0 (∀ w2, Below (wr.alloc (.cells #[.int .i64 x.f0, .int .i64 x.f1, .string x.f2, .string x.f3, .int .i64 x.f4, .slice A5 x.f5.length c5] 24)).heap.size (wr.alloc (.cells #[.int .i64 x.f0, .int .i64 x.f1, .string x.f2, .string x.f3, .int .i64 x.f4, .slice A5 x.f5.length c5] 24)) w2 → Kd.C kRow w2 A3 rows.length rows) := ⟨fun w2 hb => Kd.C_below HC3.out (FB.out.trans (hb.mono FB.out.size))⟩
      have HWo : Aside0 (Below w.heap.size w (wr.alloc (.cells #[.int .i64 x.f0, .int .i64 x.f1, .string x.f2, .string x.f3, .int .i64 x.f4, .slice A5 x.f5.length c5] 24))) := ⟨HB.out.trans (FB.out.mono HB.out.size)⟩
      unfold nCore at FX
      clear h6 h7 HM FB HB HR
      go_wp2_with fail
      clear h0 h1 h2 h3 h4 h5
      generalize wr.alloc (.cells #[.int .i64 x.f0, .int .i64 x.f1, .string x.f2, .string x.f3, .int .i64 x.f4, .slice A5 x.f5.length c5] 24) = wo at FX HX HC3 HWo ⊢
      generalize wr.heap.size = gx at FX ⊢
      go_loopw [8, 49] (fun v i wm => ∃ (j : Nat) (nxt : List (List At)), j ≤ rows.length ∧ i = .int .i64 j ∧ Aside0 (kRow.R 22 wm wo.heap.size (fun _ => True) v nxt) ∧ Aside0 (cr nxt = cross ((cr rows).take j) (casesP x)) ∧ Aside0 (Below wo.heap.size wo wm))
        (fun _ i _ => rows.length - (RowKit.intOf i).toNat)
      case atStart => exact ⟨0, [], Nat.zero_le _, rfl, ⟨Kd.R_nil _ _ _ _ _⟩, ⟨rfl⟩, ⟨Below.refl _ _⟩⟩
      case round =>
        obtain ⟨j, nxt, hj, rfl, HN, HE, HB⟩ := hrel
        by_cases hjlt : j < rows.length
        · obtain ⟨ad3, A6, c6, rfl, g0, g1, g2⟩ := at_Row (HC3.out wr HB.out) (j : Int) (by omega) (by omega)
          simp only [Int.toNat_natCast] at g0
          replace g1 := Aside0.mk g1
          replace g2 := Aside0.mk g2
          have H1 := FX.out wr HB.out
          have a0 := H1.c0
          have a1 := H1.c1
          have a2 := H1.c2
          have a3 := H1.c3
          have a4 := H1.c4
          have a5 := H1.c5
          simp only at a0 a1 a2 a3 a4 a5
          clear H1
          have HX1 := Aside0.mk (HX.out wr HB.out)
          go_wp2_with fail
          refine HX1.out.mono ?_
          rintro e w2 ⟨v1, rows1, rfl, hR1, hcr, hB1⟩
          obtain ⟨A1, c1, rfl, hl1, hc1⟩ := Kd.R_reads hR1
          have hm1 : rows1.length ≤ 9223372036854775807 := hc1.2.1
          have HI0 : Aside0 (Inn wo wr.heap.size w2.heap.size A1 c1 rows1 u8 nxt w2) := ⟨⟨Kd.R_mono (Kd.R_bound hR1) (fun k hk => ⟨hk.2.1, hk.2.2.1⟩), fun k hk => .inl ((Kd.R_bound HN.out).1 k hk).2.2.1, Kd.R_below HN.out hB1, HB.out.trans (hB1.mono HB.out.size), Nat.le_refl _⟩⟩
          have HE0 : Aside0 (cr nxt = mid rows rows1 j 0) := ⟨by rw [mid_zero, HE.out, hcr]⟩
          have HCR := Aside0.mk hcr
          have HMB := Aside0.mk (mid_bound l k hlt HL.out rows rows1 x HXX.out HA.out hcr j)
          have HGA : Aside0 (∀ w3, Below wo.heap.size wo w3 → Kd.C kAt w3 A6 (rd_Row rows j).length (rd_Row rows j)) := ⟨fun w3 hb => by
            obtain ⟨ad', A', c', e1, e2, e3, e4⟩ := at_Row (HC3.out w3 hb) (j : Int) (by omega) (by omega)
            obtain rfl : ad3 = ad' := Option.some.inj e1
            simp only [Int.toNat_natCast] at e2
            obtain ⟨ad'', A'', c'', f1, f2, f3, f4⟩ := at_Row (HC3.out wo (Below.refl _ _)) (j : Int) (by omega) (by omega)
            obtain rfl : ad3 = ad'' := Option.some.inj f1
            simp only [Int.toNat_natCast] at f2
            have q1 := cellB' hb f2
            rw [e2] at q1
            have q2 := cellB' HB.out f2
            rw [g0] at q2
            cases q1
            cases q2
            exact e4⟩
          have HRA := Aside0.mk (all_row l k HL.out rows HA.out j)
          have HRB := Aside0.mk fun m => kid_row x (Nat.le_trans (nodesL_mem (by rw [HXX.out]; simp [rd_T24, hlt])) HL.out) rows1 hcr m
          have HMS := Aside0.mk fun m hm => mid_succ rows rows1 j m hjlt hm
          have HME := Aside0.mk (mid_end rows rows1 j hjlt)
          clear hR1 hl1 hc1 hB1 HX1 HN HE a0 a1 a2 a3 a4 a5 g0 g2
          generalize rd_Row rows (j : Int) = ra at g1 HGA HRA HMS ⊢
          generalize wr.heap.size = sa at HI0 ⊢
          generalize w2.heap.size = sb at HI0 ⊢
          go_wp2_with fail
          go_loopw [8, 56] (fun v i wi => ∃ (m : Nat) (nxt : List (List At)), m ≤ rows1.length ∧ i = .int .i64 m ∧ Aside0 (Inn wo sa sb A1 c1 rows1 v nxt wi) ∧ Aside0 (cr nxt = mid rows rows1 j m))
            (fun _ i _ => rows1.length - (RowKit.intOf i).toNat)
          case atStart => exact ⟨0, nxt, Nat.zero_le _, rfl, HI0, HE0⟩
          case round =>
            obtain ⟨m, nx, hm, rfl, HN, HE⟩ := hrel
            by_cases hmlt : m < rows1.length
            · obtain ⟨ad7, A7, c7, rfl, k0, k1, k2⟩ := at_Row (Kd.R_reads' HN.out.one).2.2 (m : Int) (by omega) (by omega)
              simp only [Int.toNat_natCast] at k0
              replace k1 := Aside0.mk k1
              replace k2 := Aside0.mk k2
              have HG := Aside0.mk (HGA.out wr HN.out.below)
              have HM1 := Aside0.mk (HMS.out m hmlt)
              have HRB1 := Aside0.mk (HRB.out m)
              generalize rd_Row rows1 (m : Int) = rb at k0 k1 k2 HM1 HRB1
              have FB : Aside0 (Below wr.heap.size wr (wr.alloc (.cells #[.slice A6 ra.length c6, .slice A7 rb.length c7] 22))) := ⟨below_alloc (Below.refl _ _) _⟩
              have HCC : Aside0 (Calls Tryd.prog 34 #[.slice (some ⟨wr.heap.size, 0, none⟩) 2 2] (wr.alloc (.cells #[.slice A6 ra.length c6, .slice A7 rb.length c7] 22)) fun e w' => ∃ v, e = .returned v ∧ kAt.R 24 w' (wr.alloc (.cells #[.slice A6 ra.length c6, .slice A7 rb.length c7] 22)).heap.size (fun _ => True) v [ra, rb].flatten ∧ Below (wr.alloc (.cells #[.slice A6 ra.length c6, .slice A7 rb.length c7] 22)).heap.size (wr.alloc (.cells #[.slice A6 ra.length c6, .slice A7 rb.length c7] 22)) w') :=
                ⟨concat_calls (some ⟨wr.heap.size, 0, none⟩) 2 [ra, rb] _ (pair_C (heap_alloc_new wr _) (Kd.C_below HG.out FB.out) (Kd.C_below k2.out FB.out) g1.out k1.out) (by have h1 := HRA.out; have h2 := HRB1.out; simp only [lens, List.map_cons, List.map_nil, List.sum_cons, List.sum_nil]; omega)⟩
              have HS := Aside0.mk (HMB.out m hjlt hm nx HE.out)
              have HN1 := Aside0.mk fun w3 (hb : Below wr.heap.size wr w3) => HN.out.to hb
              have HFR : Aside0 (∀ q, (wr.alloc (.cells #[.slice A6 ra.length c6, .slice A7 rb.length c7] 22)).heap.size ≤ q → True ∧ some q ≠ u8.ownBlock) := ⟨fun q hq => fresh_of HN.out.nxt q (by simp at hq; omega)⟩
              have HE1 : Aside0 (cr (nx ++ [ra ++ rb]) = mid rows rows1 j (m + 1)) := ⟨by rw [HM1.out, cr_append, HE.out]⟩
              have HSZ : Aside0 (wo.heap.size ≤ (wr.alloc (.cells #[.slice A6 ra.length c6, .slice A7 rb.length c7] 22)).heap.size) := ⟨by have := HN.out.below.size; simp; omega⟩
              clear HG HM1 HRB1 k1 k2 HN HE
              go_wp2_with fail
              clear k0
              refine HCC.out.mono ?_
              rintro e w3 ⟨v6, rfl, hR6, hB6⟩
              obtain ⟨A8, c8, rfl⟩ := Kd.R_slice hR6
              have HB7 := Aside0.mk (FB.out.trans (hB6.mono FB.out.size))
              have HB8 : Aside0 (Below wr.heap.size wr (w3.alloc (.cells #[.slice A8 [ra, rb].flatten.length c8] 22))) := ⟨HB7.out.alloc HB7.out.size _⟩
              have HRR : Aside0 (ReadsRow (kRow.M (w3.alloc (.cells #[.slice A8 [ra, rb].flatten.length c8] 22)) wo.heap.size (fun q => (wr.alloc (.cells #[.slice A6 ra.length c6, .slice A7 rb.length c7] 22)).heap.size ≤ q)) 1 (w3.alloc (.cells #[.slice A8 [ra, rb].flatten.length c8] 22)) (some ⟨w3.heap.size, 0, none⟩) 1 [ra ++ rb]) := ⟨single_reads (heap_alloc_new w3 _) (by have h := Kd.R_below hR6 (below_alloc (Below.refl w3.heap.size w3) (.cells #[.slice A8 [ra, rb].flatten.length c8] 22)); simpa using h) HSZ.out⟩
              clear hR6 hB6 HCC FB HB7 HSZ
              generalize hfl : [ra, rb].flatten.length = n8 at HB8 HRR ⊢
              replace hfl := Aside0.mk hfl
              generalize hwa : (wr.alloc (.cells #[.slice A6 ra.length c6, .slice A7 rb.length c7] 22)).heap.size = na at HFR HRR
              replace hwa := Aside0.mk hwa
              have HN4 := Aside0.mk (HN1.out _ HB8.out)
              go_wp2_with (at_builtin; refine Kd.R_append_rows kRow (Rr := kRow.M (w3.alloc (.cells #[.slice A8 n8 c8] 22)) wo.heap.size (fun q => na ≤ q)) (w0 := wo) wo.heap.size rfl _ _ 42 22 _ 24 rfl Tryd.underlying42 info22 rfl (by decide) (by decide) u8 nx [ra ++ rb] (some ⟨w3.heap.size, 0, none⟩) 1 1 (fun _ => True) (fun q => na ≤ q) rfl rfl HN4.out.nxt HRR.out (fun _ _ h => h) HFR.out (fun _ _ => trivial) HN4.out.below HN4.out.below.size HS.out ?hnext)
              intro v9 w9 ho hb hg hat
              have HN9 := Aside0.mk (HN4.out.app ho hb hg (by rw [World.size_alloc]; exact hat) hg.size)
              clear ho hb hg hat HN4 HRR HFR HB8 HN1 HS hfl hwa
              go_wp2_with fail
              go_roundw
              case rel => exact ⟨m + 1, nx ++ [ra ++ rb], by omega, by go_num, HN9, HE1⟩
              case measure => simp [RowKit.intOf]; omega
            · obtain rfl : m = rows1.length := by omega
              have HN2 := Aside0.mk HN.out.nxt
              have HE2 : Aside0 (cr nx = cross ((cr rows).take (j + 1)) (casesP x)) := ⟨by rw [HE.out, HME.out, HCR.out]⟩
              have HB2 := Aside0.mk HN.out.below
              go_wp2_with fail
              go_roundw
              case rel => exact ⟨j + 1, nx, by omega, by go_num, HN2, HE2, HB2⟩
              case measure => simp [RowKit.intOf]; omega
        · obtain rfl : j = rows.length := by omega
          have HR2 : Aside0 (kRow.R 22 wr w.heap.size (fun _ => True) u8 nxt) := ⟨Kd.R_lower HN.out HWo.out.size⟩
          have HA2 : Aside0 (cr nxt = allP (l.take (k + 1)) [[]]) := ⟨by
            have e : (cr rows).take rows.length = cr rows := by rw [← cr_length rows, List.take_length]
            rw [HE.out, e, allP_take _ _ _ hlt, HXX.out, HA.out]
            simp [rd_T24, hlt]⟩
          have HB2 := Aside0.mk (HWo.out.trans (HB.out.mono HWo.out.size))
          go_wp2_with fail
          go_roundw
          case rel => exact ⟨k + 1, nxt, by omega, by go_num, HR2, HA2, HB2⟩
          case measure => simp [RowKit.intOf]; omega
    · obtain rfl : k = l.length := by omega
      go_wp2_with fail
      go_ret
      exact ⟨_, rows, rfl, HR.out, by have h := HA.out; rwa [List.take_length] at h, HB.out⟩
/-- cases: the ways in which a tree holds. -/
theorem cases_calls (N : Nat) (hN : N ≤ 30) : ∀ (x : S24) (A : Option Addr) (c : Nat) (w : World), nodes x ≤ N → Kd.C k24 w A x.f5.length x.f5 → x.f5.length ≤ c → Calls Tryd.prog 22 #[.agg #[.int .i64 x.f0, .int .i64 x.f1, .string x.f2, .string x.f3, .int .i64 x.f4, .slice A x.f5.length c]] w fun e w' => ∃ v rows, e = .returned v ∧ kRow.R 22 w' w.heap.size (fun _ => True) v rows ∧ cr rows = casesP x ∧ Below w.heap.size w w' := by
  induction N with
  | zero => intro x _ _ _ h; have := nodes_pos x; omega
  | succ N ih =>
    intro x A c w h hC hc
    have hl : nodesL x.f5 ≤ N := by rw [nodes_eq] at h; omega
    have IH : ∀ (y : S24) (A1 : Option Addr) (c1 : Nat) (w1 : World), y ∈ x.f5 → Kd.C k24 w1 A1 y.f5.length y.f5 → y.f5.length ≤ c1 → _ := fun y A1 c1 w1 hy hC1 hc1 => ih (by omega) y A1 c1 w1 (Nat.le_trans (nodesL_mem hy) hl) hC1 hc1
    have e := casesP_eq x
    by_cases h1 : 3 ≤ x.f0 ∧ x.f0 ≤ 7
    · rw [if_pos h1] at e
      rw [e]
      exact cases_atom x.f0 x.f1 x.f4 x.f2 x.f3 x.f5 A c w hC hc h1
    · rw [if_neg h1] at e
      by_cases h2 : x.f0 = 1
      · rw [if_pos h2] at e
        rw [e, h2]
        exact cases_any x.f1 x.f4 x.f2 x.f3 x.f5 A c w hC hc IH (by have h3 := anyP_len x.f5; have h4 := pow30 (Nat.le_trans hl (by omega)); omega)
      · rw [if_neg h2] at e
        by_cases h3 : x.f0 = 0
        · rw [if_pos h3] at e
          rw [e, h3]
          exact cases_all x.f1 x.f4 x.f2 x.f3 x.f5 A c w hC hc IH (by omega)
        · rw [if_neg h3] at e
          rw [e]
          exact cases_none x.f0 x.f1 x.f4 x.f2 x.f3 x.f5 A c w hC hc h1 h3 h2
end Go.Proofs.YtlgcceojnbobeaaDoor.A

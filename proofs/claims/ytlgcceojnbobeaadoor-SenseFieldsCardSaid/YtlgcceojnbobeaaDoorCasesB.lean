/- sense.cases walked: the other kinds. -/
import Derived.Test.YtlgcceojnbobeaaDoorCases
namespace Go.Proofs.YtlgcceojnbobeaaDoor.A
open Go.RowKit Go.Shelf Go.Proofs.YtlgcceojnbobeaaDoorW.PrintWords Go.Proofs.YtlgcceojnbobeaaDoorW.PrintLast Go.Proofs.YtlgcceojnbobeaaDoorW.PrintMore
set_option linter.unusedVariables false
set_option linter.unusedSimpArgs false

theorem info22 : (Tryd.prog.info? 22).map (fun i => (i.zero, i.size, i.bytes)) = some (some (.slice none 0 0), 1, 24) := by kernel_rfl
theorem lit_empty {W : World} {g base : Nat} (hb : W.heap[g]? = some (.cells #[.slice none 0 0] 22 (0, 0))) (hbase : base ≤ g) : kRow.R 22 W base (fun _ => True) (.slice (some ⟨g, 0, none⟩) 1 1) [[]] :=
  R_block kRow (cs := [.slice none 0 0]) hb hbase trivial ⟨_, rfl, Kd.R_nil _ _ _ _ _⟩ rfl
/-- What stands when the node has been asked whether it is an atom. -/
structure Front (w w1 : World) (c : Core) (p : Int) (L : Value) : Prop where
  below : Below w.heap.size w w1
  box : Box24 w1 w.heap.size c p L
  out : kRow.R 22 w1 w.heap.size (fun _ => True) (.slice (some ⟨w.heap.size + 1, 0, none⟩) 1 1) [[]]
theorem front (w w1 : World) (c : Core) (p : Int) (L : Value) (h : Below ((w.alloc (.cells (nodeC c p L) 24)).alloc (.cells #[.slice none 0 0] 22)).heap.size ((w.alloc (.cells (nodeC c p L) 24)).alloc (.cells #[.slice none 0 0] 22)) w1) : Front w w1 c p L := by
  have h2 := heap_alloc_new (w.alloc (.cells (nodeC c p L) 24)) (.cells #[.slice none 0 0] 22)
  rw [World.size_alloc] at h2
  exact ⟨(((Below.refl _ _).alloc (Nat.le_refl _) _).alloc (by simp) _).trans (h.mono (by simp; omega)), ((box_at w c.k p c.n c.f c.t L).below (below_alloc (Below.refl _ _) _)).below h, lit_empty ((h.block _ (by simp)).trans h2) (by omega)⟩
theorem asks (k p n : Int) (f t : ByteArray) (l : List S24) (A : Option Addr) (c : Nat) (w w0 : World) (hC : Kd.C k24 w A l.length l) (hc : l.length ≤ c) (hb : Below w.heap.size w w0) (h : ¬ (3 ≤ k ∧ k ≤ 7)) : Calls Tryd.prog 33 #[.agg #[.int .i64 k, .int .i64 p, .string f, .string t, .int .i64 n, .slice A l.length c]] w0 fun e w' => e = .returned (.bool false) ∧ Below w0.heap.size w0 w' :=
  sense_atom.calls k p f t n A c l false w0 (Kd.C_below hC hb) hc (by rw [atom_is]; simp [isAtom]; omega)
theorem rows_read {W : World} {base N : Nat} {v : Value} {rows : List (List At)} (h : kRow.R 22 W N (fun _ => True) v rows) (hb : base ≤ N) : ∃ A c, v = .slice A rows.length c ∧ rows.length ≤ c ∧ ReadsRow (kRow.M W base (fun k => N ≤ k)) 1 W A rows.length rows := by
  obtain ⟨A, c, he, hl, hr⟩ := OwnRow.reads (Kd.R_bound h).2
  exact ⟨A, c, he, hl, hr.imp_ (Below.refl _ _) (fun x cs hp => kRow.M_lower hb (kRow.M_mono (fun k hk => hk.1.2.1) hp))⟩
theorem fresh_of {W : World} {base : Nat} {v : Value} {rows : List (List At)} (h : kRow.R 22 W base (fun _ => True) v rows) : ∀ k, W.heap.size ≤ k → True ∧ some k ≠ v.ownBlock := fun k hk => ⟨trivial, fun e => by
  have := ((Kd.R_bound h).1 k e.symm).2.2.1
  omega⟩
theorem cr_append (a b : List (List At)) : cr (a ++ b) = cr a ++ cr b := by simp [cr]
theorem cr_length (a : List (List At)) : (cr a).length = a.length := by simp [cr]
theorem anyP_le (l : List S24) (k : Nat) : (anyP (l.take k)).length ≤ (anyP l).length := by
  conv => rhs; rw [← List.take_append_drop k l]
  rw [anyP_append, List.length_append]; omega
theorem any_len (l : List S24) (k : Nat) (rows rows1 : List (List At)) (x : S24) (hl : (anyP l).length ≤ 1099511627776) (h : cr rows = anyP (l.take k)) (h1 : cr rows1 = casesP x) (ht : anyP (l.take (k + 1)) = anyP (l.take k) ++ casesP x) : (rows.length + rows1.length) * 24 ≤ 140737488355328 := by
  have := anyP_le l (k + 1)
  rw [ht, List.length_append, ← h, ← h1, cr_length, cr_length] at this
  omega
theorem two_below (w : World) (o o' : Obj) : Below w.heap.size w ((w.alloc o).alloc o') := ((Below.refl _ _).alloc (Nat.le_refl _) _).alloc (by simp) _
set_option maxHeartbeats 4000000 in
set_option maxRecDepth 100000 in
theorem cases_none (k p n : Int) (f t : ByteArray) (l : List S24) (A : Option Addr) (c : Nat) (w : World) (hC : Kd.C k24 w A l.length l) (hc : l.length ≤ c) (h : ¬ (3 ≤ k ∧ k ≤ 7)) (h0 : k ≠ 0) (h1 : k ≠ 1) :
    Calls Tryd.prog 22 #[.agg #[.int .i64 k, .int .i64 p, .string f, .string t, .int .i64 n, .slice A l.length c]] w fun e w' => ∃ v rows, e = .returned v ∧ kRow.R 22 w' w.heap.size (fun _ => True) v rows ∧ cr rows = [[]] ∧ Below w.heap.size w w' := by
  have HF := Aside0.mk fun w1 hb => front w w1 ⟨k, f, t, n⟩ p (.slice A l.length c) hb
  have HQ := Aside0.mk fun o o' => asks k p n f t l A c w _ hC hc (two_below w o o') h
  unfold nodeC at HF
  simp only at HF
  clear hC hc h
  go_enter Tryd.func22, Tryd.ntmps22
  go_wp2_with fail
  refine (HQ.out _ _).mono ?_
  rintro e w1 ⟨rfl, hB1⟩
  have HF1 := Aside0.mk (HF.out w1 hB1)
  have a0 := HF1.out.box.c0
  simp only at a0
  clear HF HQ hB1
  go_wp2_with fail
  go_ret
  exact ⟨_, [[]], rfl, HF1.out.out, rfl, HF1.out.below⟩
set_option maxHeartbeats 4000000 in
set_option maxRecDepth 100000 in
theorem cases_any (p n : Int) (f t : ByteArray) (l : List S24) (A : Option Addr) (c : Nat) (w : World) (hC : Kd.C k24 w A l.length l) (hc : l.length ≤ c)
    (IH : ∀ (x : S24) (A1 : Option Addr) (c1 : Nat) (w1 : World), x ∈ l → Kd.C k24 w1 A1 x.f5.length x.f5 → x.f5.length ≤ c1 → Calls Tryd.prog 22 #[.agg #[.int .i64 x.f0, .int .i64 x.f1, .string x.f2, .string x.f3, .int .i64 x.f4, .slice A1 x.f5.length c1]] w1 fun e w' => ∃ v rows, e = .returned v ∧ kRow.R 22 w' w1.heap.size (fun _ => True) v rows ∧ cr rows = casesP x ∧ Below w1.heap.size w1 w') (hlen : (anyP l).length ≤ 1099511627776) :
    Calls Tryd.prog 22 #[.agg #[.int .i64 1, .int .i64 p, .string f, .string t, .int .i64 n, .slice A l.length c]] w fun e w' => ∃ v rows, e = .returned v ∧ kRow.R 22 w' w.heap.size (fun _ => True) v rows ∧ cr rows = anyP l ∧ Below w.heap.size w w' := by
  have hmax : l.length ≤ 9223372036854775807 := hC.2.1
  have HF := Aside0.mk fun w1 hb => front w w1 ⟨1, f, t, n⟩ p (.slice A l.length c) hb
  have HQ := Aside0.mk fun o o' => asks 1 p n f t l A c w _ hC hc (two_below w o o') (by omega)
  have HI := Aside0.mk IH
  have HC := Aside0.mk hC
  have HL := Aside0.mk hlen
  unfold nodeC at HF
  simp only at HF
  clear hC hc IH hlen
  go_enter Tryd.func22, Tryd.ntmps22
  go_wp2_with fail
  refine (HQ.out _ _).mono ?_
  rintro e w1 ⟨rfl, hB1⟩
  have HF1 := Aside0.mk (HF.out w1 hB1)
  have a0 := HF1.out.box.c0
  have a5 := HF1.out.box.c5
  have HB1 := Aside0.mk HF1.out.below
  simp only at a0 a5
  clear HF HQ hB1 HF1
  go_wp2_with fail
  go_loopw [3, 27] (fun v i wr => ∃ (k : Nat) (rows : List (List At)), k ≤ l.length ∧ i = .int .i64 k ∧ Aside0 (kRow.R 22 wr w.heap.size (fun _ => True) v rows) ∧ Aside0 (cr rows = anyP (l.take k)) ∧ Aside0 (Below w.heap.size w wr))
    (fun _ i _ => l.length - (RowKit.intOf i).toNat)
  case atStart => exact ⟨0, [], Nat.zero_le _, rfl, ⟨Kd.R_nil _ _ _ _ _⟩, ⟨rfl⟩, HB1⟩
  case round =>
    obtain ⟨k, rows, hk, rfl, HR, HA, HB⟩ := hrel
    by_cases hlt : k < l.length
    · obtain ⟨ad, A5, c5, rfl, h0, h1, h2, h3, h4, h5, h6, h7⟩ := at_T24 (Kd.C_below HC.out HB.out) (k : Int) (by omega) (by omega)
      simp only [Int.toNat_natCast] at h0 h1 h2 h3 h4 h5
      have hx : Aside0 (rd_T24 l k = l[k]) := ⟨by simp [rd_T24, hlt]⟩
      have HT := Aside0.mk (anyP_take l k hlt)
      have HM := Aside0.mk (List.getElem_mem hlt)
      rw [← hx.out] at HT HM
      obtain ⟨x, hxx⟩ : ∃ x, x = rd_T24 l k := ⟨_, rfl⟩
      rw [← hxx] at h0 h1 h2 h3 h4 h5 h6 h7 HT HM
      replace h6 := Aside0.mk h6
      replace h7 := Aside0.mk h7
      have HX := Aside0.mk fun o => HI.out x A5 c5 (wr.alloc o) HM.out (Kd.C_below h7.out (below_alloc (Below.refl _ _) o)) h6.out
      have HB2 := Aside0.mk fun o w2 (hb : Below (wr.alloc o).heap.size (wr.alloc o) w2) => show Below wr.heap.size wr w2 from (below_alloc (Below.refl _ _) o).trans (hb.mono (by simp))
      clear hx hxx a0 a5 h6 h7
      go_wp2_with fail
      refine (HX.out _).mono ?_
      rintro e w2 ⟨v1, rows1, rfl, hR1, hcr, hB1⟩
      have hB2 := HB2.out _ _ hB1
      have HW := Aside0.mk (HB.out.trans (hB2.mono HB.out.size))
      obtain ⟨A1, c1, rfl, hl1, hrr⟩ := rows_read hR1 (base := w.heap.size) (by have := HB.out.size; simp; omega)
      have HRR := Aside0.mk hrr
      have HO := Aside0.mk (Kd.R_below HR.out hB2)
      have HFR : Aside0 (∀ k, (wr.alloc (.cells #[.int .i64 x.f0, .int .i64 x.f1, .string x.f2, .string x.f3, .int .i64 x.f4, .slice A5 x.f5.length c5] 24)).heap.size ≤ k → True ∧ some k ≠ u3.ownBlock) := ⟨fun k hk => fresh_of HR.out k (by simp at hk; omega)⟩
      have HS := Aside0.mk (any_len l k rows rows1 x HL.out HA.out hcr HT.out)
      have HA1 : Aside0 (cr (rows ++ rows1) = anyP (l.take (k + 1))) := ⟨by rw [cr_append, HA.out, hcr, HT.out]⟩
      clear hB2 hR1 hl1 hrr hcr HB HR HX HB2 HT HM hB1 HA h0 h1 h2 h3 h4 h5
      go_wp2_with (at_builtin; refine Kd.R_append_rows kRow (Rr := kRow.M w2 w.heap.size (fun k => (wr.alloc (.cells #[.int .i64 x.f0, .int .i64 x.f1, .string x.f2, .string x.f3, .int .i64 x.f4, .slice A5 x.f5.length c5] 24)).heap.size ≤ k)) (w0 := w) w.heap.size rfl _ _ 42 22 _ 24 rfl Tryd.underlying42 info22 rfl (by decide) (by decide) u3 rows rows1 A1 rows1.length c1 (fun _ => True) (fun k => (wr.alloc (.cells #[.int .i64 x.f0, .int .i64 x.f1, .string x.f2, .string x.f3, .int .i64 x.f4, .slice A5 x.f5.length c5] 24)).heap.size ≤ k) rfl rfl HO.out HRR.out (fun _ _ h => h) HFR.out (fun _ _ => trivial) HW.out HW.out.size HS.out ?hnext)
      intro v2 w3 ho hb hg hat
      have HB3 := Aside0.mk hb
      have HO3 := Aside0.mk ho
      clear ho hb hg hat HS HO HRR HFR HW
      go_wp2_with fail
      go_roundw
      case rel => exact ⟨k + 1, rows ++ rows1, by omega, by go_num, HO3, HA1, HB3⟩
      case measure => simp [RowKit.intOf]; omega
    · obtain rfl : k = l.length := by omega
      go_wp2_with fail
      go_ret
      exact ⟨_, rows, rfl, HR.out, by have h := HA.out; rwa [List.take_length] at h, HB.out⟩
end Go.Proofs.YtlgcceojnbobeaaDoor.A

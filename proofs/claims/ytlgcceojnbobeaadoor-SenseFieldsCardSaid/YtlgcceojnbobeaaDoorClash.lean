/- sense.Clash walked. -/
import Derived.Test.YtlgcceojnbobeaaDoorEvs3
import Derived.Test.YtlgcceojnbobeaaDoorCasesC
namespace Go.Proofs.YtlgcceojnbobeaaDoor.A
open Go.RowKit Go.Shelf Go.Proofs.YtlgcceojnbobeaaDoorW.PrintWords Go.Proofs.YtlgcceojnbobeaaDoorW.PrintLast Go.Proofs.YtlgcceojnbobeaaDoorW.PrintMore
set_option linter.unusedVariables false
set_option linter.unusedSimpArgs false

theorem clashL_eq (l : List At) : clashL l = clashC (l.map At.c) := by
  unfold clashL clashC
  rw [List.any_map]
  congr 1
  funext a
  simp only [Function.comp, List.any_map]
  rfl
theorem some_eq (rows : List (List At)) (x : S24) (h : cr rows = casesP x) : (rows.any fun r => !clashL r) = ((casesP x).any fun r => !clashC r) := by
  rw [← h, cr, List.any_map]
  congr 1
  funext r
  simp only [Function.comp, clashL_eq]
theorem short_of (rows : List (List At)) (x : S24) (h : cr rows = casesP x) (hs : ∀ row ∈ casesP x, ∀ c ∈ row, c.t.size ≤ 1000) : ∀ r ∈ rows, Short r := fun r hr a ha =>
  hs (r.map At.c) (h ▸ List.mem_map.2 ⟨r, hr, rfl⟩) a.c (List.mem_map.2 ⟨a, ha, rfl⟩)
def xV (x : S24) (A : Option Addr) (c : Nat) : Value := .agg #[.int .i64 x.f0, .int .i64 x.f1, .string x.f2, .string x.f3, .int .i64 x.f4, .slice A x.f5.length c]
set_option maxHeartbeats 4000000 in
set_option maxRecDepth 100000 in
theorem clash_calls (k p n : Int) (f t : ByteArray) (l : List S24) (A : Option Addr) (c : Nat) (w : World) (hn : nodes ⟨k, p, f, t, n, l⟩ ≤ 30) (hs : ∀ row ∈ casesP ⟨k, p, f, t, n, l⟩, ∀ c ∈ row, c.t.size ≤ 1000) (hg : Glob w) (hC : Kd.C k24 w A l.length l) (hc : l.length ≤ c) :
    Calls Tryd.prog 7 #[.agg #[.int .i64 k, .int .i64 p, .string f, .string t, .int .i64 n, .slice A l.length c]] w fun e w' => e = .returned (.bool (clashP ⟨k, p, f, t, n, l⟩)) ∧ Below w.heap.size w w' := by
  obtain ⟨q, hq⟩ := (many_ev 30 (by omega) ⟨k, p, f, t, n, l⟩ hn).rounds
  simp only at hq
  have FB : Aside0 (∀ o, Below w.heap.size w (w.alloc o)) := ⟨fun o => (Below.refl _ _).alloc (Nat.le_refl _) _⟩
  have FX : Aside0 (∀ w2, Below (w.alloc (.cells (nodeC ⟨k, f, t, n⟩ p (.slice A l.length c)) 24)).heap.size (w.alloc (.cells (nodeC ⟨k, f, t, n⟩ p (.slice A l.length c)) 24)) w2 → Box24 w2 w.heap.size ⟨k, f, t, n⟩ p (.slice A l.length c)) := ⟨fun w2 hb => (box_at w k p n f t (.slice A l.length c)).below hb⟩
  have HM := Aside0.mk fun w2 (hb : Below w.heap.size w w2) => sense_many.calls q k p f t n A c l _ _ w2 (Kd.C_below hC hb) hc hq
  have HK := Aside0.mk fun w2 (hb : Below w.heap.size w w2) => cases_calls 30 (by omega) ⟨k, p, f, t, n, l⟩ A c w2 hn (Kd.C_below hC hb) hc
  have HS := Aside0.mk hs
  have HG := Aside0.mk hg
  obtain ⟨ok, hok⟩ : ∃ ok, ok = okP ⟨k, p, f, t, n, l⟩ := ⟨_, rfl⟩
  rw [← hok] at HM
  replace hok := Aside0.mk hok
  unfold nodeC at FX
  simp only at FX HK
  clear hC hc hn hs hg hq
  go_enter Tryd.func7, Tryd.ntmps7
  go_wp2_with fail
  refine (HM.out _ (FB.out _)).mono ?_
  rintro e w1 ⟨rfl, hB1⟩
  have H1 := FX.out _ hB1
  have a0 := H1.c0
  have a1 := H1.c1
  have a2 := H1.c2
  have a3 := H1.c3
  have a4 := H1.c4
  have a5 := H1.c5
  simp only at a0 a1 a2 a3 a4 a5
  have B1 : Aside0 (Below w.heap.size w w1) := ⟨(FB.out _).trans (hB1.mono (FB.out _).size)⟩
  have HK1 := Aside0.mk (HK.out w1 B1.out)
  clear H1 hB1 HM FX HK
  cases ok
  · have hres : Aside0 (clashP ⟨k, p, f, t, n, l⟩ = false) := ⟨by unfold clashP; rw [← hok.out]; rfl⟩
    go_wp2_with fail
    go_ret
    exact ⟨by rw [hres.out]; rfl, B1.out⟩
  · have hres : Aside0 (clashP ⟨k, p, f, t, n, l⟩ = !((casesP ⟨k, p, f, t, n, l⟩).any fun r => !clashC r)) := ⟨by unfold clashP; rw [← hok.out]; rfl⟩
    go_wp2_with fail
    refine HK1.out.mono ?_
    rintro e w2 ⟨v, rows, rfl, hR, hcr, hB2⟩
    obtain ⟨A1, c1, rfl, hl1, hc1⟩ := Kd.R_reads hR
    have B2 : Aside0 (Below w.heap.size w w2) := ⟨B1.out.trans (hB2.mono B1.out.size)⟩
    have HH := Aside0.mk (some_calls A1 c1 rows w2 (HG.out.below B2.out) hc1 (short_of rows _ hcr HS.out))
    rw [some_eq rows _ hcr] at HH
    clear hR hl1 hc1 hB2 HK1 a0 a1 a2 a3 a4 a5
    go_wp2_with fail
    refine HH.out.mono ?_
    rintro e w3 ⟨rfl, hB3⟩
    have B3 := Aside0.mk (B2.out.trans (hB3.mono B2.out.size))
    clear hB3 HH
    go_wp2_with fail
    go_ret
    exact ⟨by rw [hres.out]; rfl, B3.out⟩
end Go.Proofs.YtlgcceojnbobeaaDoor.A

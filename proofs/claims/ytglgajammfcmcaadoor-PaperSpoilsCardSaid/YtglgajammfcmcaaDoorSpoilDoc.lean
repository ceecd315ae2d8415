/- paper.Spoil, walked. -/
import Derived.Test.YtglgajammfcmcaaDoorPapers
import Derived.Test.YtglgajammfcmcaaDoorRefSet
namespace Go.Proofs.YtglgajammfcmcaaDoor.A
open Go.RowKit Go.Shelf Go.Proofs.YtglgajammfcmcaaDoorW.PrintWords Go.Proofs.YtglgajammfcmcaaDoorW.PrintLast Go.Proofs.YtglgajammfcmcaaDoorW.PrintMore
set_option linter.unusedVariables false
set_option linter.unusedSimpArgs false
theorem put3 {w : World} {g : Nat} {t : TypeId} {a b c d : Value} (h : w.heap[g]? = some (.cells #[a, b, c, d] t (0, 0))) (d' : Value) :
    w.grownBy (w.setCell ⟨g, 3, none⟩ d') (some g) ∧ (w.setCell ⟨g, 3, none⟩ d').heap[g]? = some (.cells #[a, b, c, d'] t (0, 0)) :=
  ⟨⟨rfl, rfl, rfl, by simp, fun k _ hk => Below.heap_setCell _ _ _ k (fun e => hk (by rw [e]))⟩, blk_put h 3 d' rfl⟩
set_option maxHeartbeats 4000000 in
set_option maxRecDepth 100000 in
theorem spoil_calls (kd : Int) (code lang : ByteArray) (A : Option Addr) (c : Nat) (l : List S42) (n v : ByteArray) (w : World) (hC : Kd.C k42 w A l.length l) (hs : l.length ≤ 1000) :
    Calls Tryd.prog 5 #[.agg #[.int .i64 kd, .string code, .string lang, .slice A l.length c], .string n, .string v] w fun e w' => ∃ A' c', e = .returned (.agg #[.int .i64 kd, .string code, .string lang, .slice A' (setP n v l).length c']) ∧ (setP n v l).length ≤ c' ∧ Kd.C k42 w' A' (setP n v l).length (setP n v l) ∧ Below w.heap.size w w' := by
  have HS := Aside0.mk (set_calls A c l n v ((w.alloc (.cells #[.int .i64 kd, .string code, .string lang, .slice A l.length c] 24)).alloc (.cells #[.int .i64 0, .string ⟨#[]⟩, .string ⟨#[]⟩, .slice none 0 0] 24)) (Kd.C_below hC (((Below.refl _ _).alloc (Nat.le_refl _) _).alloc (by simp) _)) hs)
  have B0 : Aside0 (Below w.heap.size w ((w.alloc (.cells #[.int .i64 kd, .string code, .string lang, .slice A l.length c] 24)).alloc (.cells #[.int .i64 0, .string ⟨#[]⟩, .string ⟨#[]⟩, .slice none 0 0] 24))) := ⟨((Below.refl _ _).alloc (Nat.le_refl _) _).alloc (by simp) _⟩
  have K0 : Aside0 (((w.alloc (.cells #[.int .i64 kd, .string code, .string lang, .slice A l.length c] 24)).alloc (.cells #[.int .i64 0, .string ⟨#[]⟩, .string ⟨#[]⟩, .slice none 0 0] 24)).heap[w.heap.size]? = some (.cells #[.int .i64 kd, .string code, .string lang, .slice A l.length c] 24 (0, 0))) := ⟨blk_alloc (heap_alloc_new w _) _⟩
  have K1 : Aside0 (((w.alloc (.cells #[.int .i64 kd, .string code, .string lang, .slice A l.length c] 24)).alloc (.cells #[.int .i64 0, .string ⟨#[]⟩, .string ⟨#[]⟩, .slice none 0 0] 24)).heap[w.heap.size + 1]? = some (.cells #[.int .i64 0, .string ⟨#[]⟩, .string ⟨#[]⟩, .slice none 0 0] 24 (0, 0))) := ⟨by have := heap_alloc_new (w.alloc (.cells #[.int .i64 kd, .string code, .string lang, .slice A l.length c] 24)) (.cells #[.int .i64 0, .string ⟨#[]⟩, .string ⟨#[]⟩, .slice none 0 0] 24); rwa [World.size_alloc] at this⟩
  clear hC hs
  go_enter Tryd.func5, Tryd.ntmps5
  go_wp2_with fail
  refine HS.out.mono ?_
  rintro e w2 ⟨u, rfl, hR, hB⟩
  obtain ⟨A1, c1, rfl⟩ := Kd.R_slice hR
  replace K0 := Aside0.mk (blk_below' K0.out hB)
  replace K1 := Aside0.mk (blk_below' K1.out hB)
  replace hR := Aside0.mk (R42_le hR B0.out.size)
  replace B0 := Aside0.mk (B0.out.trans (hB.mono B0.out.size))
  clear hB HS
  obtain ⟨nn, hnn⟩ : ∃ nn, nn = (setP n v l).length := ⟨_, rfl⟩
  rw [← hnn] at hR ⊢
  replace hnn := Aside0.mk hnn
  obtain ⟨hg, K2⟩ := put3 K0.out (.slice A1 nn c1)
  have hne : w.heap.size + 1 ≠ w.heap.size := by omega
  have K3 : (w2.setCell ⟨w.heap.size, 3, none⟩ (.slice A1 nn c1)).heap[w.heap.size + 1]? = some (.cells #[.int .i64 0, .string ⟨#[]⟩, .string ⟨#[]⟩, .slice none 0 0] 24 (0, 0)) := blk_grown K1.out hg (fun e => by injection e with e; omega)
  have hR2 := R42_kept hR.out hg (fun k e => by injection e with e; subst e; exact R42_ne4 K0.out (by decide) hR.out)
  have B2 := B0.out.grown hg B0.out.size (fun j e => by injection e with e; omega)
  obtain ⟨hg4, K4⟩ := put4 K3 (.int .i64 kd) (.string code) (.string lang) (.slice A1 nn c1)
  have hR3 := Aside0.mk (R42_kept hR2 hg4 (fun k e => by injection e with e; subst e; exact R42_ne4 K3 (by decide) hR2))
  have B3 := Aside0.mk (B2.grown hg4 B2.size (fun j e => by injection e with e; omega))
  obtain ⟨a0, a1, a2, a3, x0, x1, x2, x3⟩ := box4 K0.out
  obtain ⟨b0, b1, b2, b3, y0, y1, y2, y3⟩ := box4 K2
  obtain ⟨d0, d1, d2, d3, z0, z1, z2, z3⟩ := box4 K3
  obtain ⟨e0, e1, e2, e3, _, _, _, _⟩ := box4 K4
  clear hg hne K2 K3 hR2 B2 hg4 K4 hR B0 K0 K1
  go_wp2_with fail
  obtain ⟨A9, c9, h9, hl9, hC9⟩ := Kd.R_reads hR3.out
  rw [← hnn.out] at h9 hl9 hC9
  cases h9
  refine bodyPost_ret (v := .agg #[.int .i64 kd, .string code, .string lang, .slice A1 nn c1]) ?_ rfl ⟨A1, c1, by rw [← hnn.out], by rw [← hnn.out]; exact ⟨hl9, hC9, B3.out⟩⟩
  simp [results, Tryd.results5, go_sem, e0, e1, e2, e3]
end Go.Proofs.YtglgajammfcmcaaDoor.A

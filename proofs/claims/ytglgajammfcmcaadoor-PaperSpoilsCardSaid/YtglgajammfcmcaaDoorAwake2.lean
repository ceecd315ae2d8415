/- The chapter's examples, walked to the end. -/
import Derived.Test.YtglgajammfcmcaaDoorAwake
namespace Go.Proofs.YtglgajammfcmcaaDoor.A
open Go.RowKit Go.Shelf Go.Proofs.YtglgajammfcmcaaDoorW.PrintWords Go.Proofs.YtglgajammfcmcaaDoorW.PrintLast Go.Proofs.YtglgajammfcmcaaDoorW.PrintMore
set_option linter.unusedVariables false
set_option linter.unusedSimpArgs false
set_option maxHeartbeats 4000000 in
set_option maxRecDepth 100000 in
theorem awake_calls (w : World) (hg : Glob w) : Calls Tryd.prog 4 #[] w fun e w' => e = .returned (.bool true) ∧ Below w.heap.size w w' := by
  have HI := Aside0.mk fun w2 (h : Below w.heap.size w w2) => inv1_calls w2 (hg.below h)
  have HPK := Aside0.mk fun w2 (h : Below w.heap.size w w2) => pack1_calls w2 (hg.below h)
  obtain ⟨DV, hDV⟩ : ∃ DV : Value, Aside0 (.agg #[.string (⟨#[100, 49]⟩ : ByteArray), .string (⟨#[]⟩ : ByteArray), .string (⟨#[]⟩ : ByteArray), .string (⟨#[]⟩ : ByteArray), .string (⟨#[]⟩ : ByteArray), .string (⟨#[]⟩ : ByteArray), .string (⟨#[]⟩ : ByteArray), .string (⟨#[114, 105, 103, 97]⟩ : ByteArray), .string (⟨#[111, 115, 108, 111]⟩ : ByteArray), .string (⟨#[85, 83, 68]⟩ : ByteArray), .int .i64 500, .slice none 0 0, .int .i64 0, .int .i64 0, .int .i64 0, .int .i64 0, .int .i64 0] = DV) := ⟨_, ⟨rfl⟩⟩
  rw [hDV.out] at HI HPK
  have Ba : Aside0 (Below w.heap.size w (w.alloc (.cells #[.string (⟨#[100, 49]⟩ : ByteArray), .string (⟨#[]⟩ : ByteArray), .string (⟨#[]⟩ : ByteArray), .string (⟨#[]⟩ : ByteArray), .string (⟨#[]⟩ : ByteArray), .string (⟨#[]⟩ : ByteArray), .string (⟨#[]⟩ : ByteArray), .string (⟨#[114, 105, 103, 97]⟩ : ByteArray), .string (⟨#[111, 115, 108, 111]⟩ : ByteArray), .string (⟨#[85, 83, 68]⟩ : ByteArray), .int .i64 500, .slice none 0 0, .int .i64 0, .int .i64 0, .int .i64 0, .int .i64 0, .int .i64 0] 36))) := ⟨(Below.refl _ _).alloc (Nat.le_refl _) _⟩
  have Ka : Aside0 ((w.alloc (.cells #[.string (⟨#[100, 49]⟩ : ByteArray), .string (⟨#[]⟩ : ByteArray), .string (⟨#[]⟩ : ByteArray), .string (⟨#[]⟩ : ByteArray), .string (⟨#[]⟩ : ByteArray), .string (⟨#[]⟩ : ByteArray), .string (⟨#[]⟩ : ByteArray), .string (⟨#[114, 105, 103, 97]⟩ : ByteArray), .string (⟨#[111, 115, 108, 111]⟩ : ByteArray), .string (⟨#[85, 83, 68]⟩ : ByteArray), .int .i64 500, .slice none 0 0, .int .i64 0, .int .i64 0, .int .i64 0, .int .i64 0, .int .i64 0] 36)).heap[w.heap.size]? = some (.cells #[.string (⟨#[100, 49]⟩ : ByteArray), .string (⟨#[]⟩ : ByteArray), .string (⟨#[]⟩ : ByteArray), .string (⟨#[]⟩ : ByteArray), .string (⟨#[]⟩ : ByteArray), .string (⟨#[]⟩ : ByteArray), .string (⟨#[]⟩ : ByteArray), .string (⟨#[114, 105, 103, 97]⟩ : ByteArray), .string (⟨#[111, 115, 108, 111]⟩ : ByteArray), .string (⟨#[85, 83, 68]⟩ : ByteArray), .int .i64 500, .slice none 0 0, .int .i64 0, .int .i64 0, .int .i64 0, .int .i64 0, .int .i64 0] 36 (0, 0))) := ⟨heap_alloc_new w _⟩
  clear hg
  go_enter Tryd.func4, Tryd.ntmps4
  go_wp2_with fail
  rw [hDV.out]
  refine (HI.out _ Ba.out).mono ?_
  rintro e w1 ⟨A, nI, c, rfl, HG0, hB⟩
  have KD := Aside0.mk (blk_alloc (blk_below' Ka.out hB) (.cells #[.int .i64 0, .string (⟨#[105, 118, 45, 100, 49]⟩ : ByteArray), .string (⟨#[]⟩ : ByteArray), .slice A nI c] 24))
  have KP : Aside0 ((w1.alloc (.cells #[.int .i64 0, .string (⟨#[105, 118, 45, 100, 49]⟩ : ByteArray), .string (⟨#[]⟩ : ByteArray), .slice A nI c] 24)).heap[w1.heap.size]? = some (.cells #[.int .i64 0, .string (⟨#[105, 118, 45, 100, 49]⟩ : ByteArray), .string (⟨#[]⟩ : ByteArray), .slice A nI c] 24 (0, 0))) := ⟨heap_alloc_new w1 _⟩
  have B1 := Aside0.mk (Ba.out.trans (hB.mono Ba.out.size))
  have B2 := Aside0.mk (B1.out.alloc B1.out.size (.cells #[.int .i64 0, .string (⟨#[105, 118, 45, 100, 49]⟩ : ByteArray), .string (⟨#[]⟩ : ByteArray), .slice A nI c] 24))
  have HG := Aside0.mk (HG0 (w1.alloc (.cells #[.int .i64 0, .string (⟨#[105, 118, 45, 100, 49]⟩ : ByteArray), .string (⟨#[]⟩ : ByteArray), .slice A nI c] 24)) ((Below.refl _ _).alloc (Nat.le_refl _) _))
  obtain ⟨gp, hgp⟩ : ∃ gp, gp = w1.heap.size := ⟨_, rfl⟩
  clear HI hB HG0 Ka Ba
  go_wp2_with fail
  refine HG.out.mono ?_
  rintro e w5 ⟨rfl, hB⟩
  replace KD := Aside0.mk (blk_below' KD.out hB)
  replace KP := Aside0.mk (blk_below' KP.out hB)
  have B0 := Aside0.mk (B2.out.trans (hB.mono B2.out.size))
  rw [← hgp] at KP ⊢
  clear hB HG B1 B2 hgp
  go_wp2_with fail
  rename_i K_ hk_
  refine awake_r4 w.heap.size w DV A nI c gp w5 _ _ HPK (fun _ _ _ _ _ h => h) hDV ⟨rfl⟩ ⟨KD.out⟩ ⟨KP.out⟩ ⟨B0.out.drew⟩ ?_
  clear HPK hDV KD KP B0
  rintro w8 g cq t16 t17 t18 t19 KP hq1 B8
  obtain ⟨p0, p1, p2, p3, _, _, _, _⟩ := box4 KP
  have B0 := Aside0.mk B8
  have e1 : ((⟨#[105, 118, 45, 100, 49]⟩ : ByteArray).toList == ([105, 118, 45, 100, 49] : List UInt8)) = true := by rw [ByteArray.toList_eq]; rfl
  have e2 : ((⟨#[53, 48, 48]⟩ : ByteArray).toList == ([53, 48, 48] : List UInt8)) = true := by rw [ByteArray.toList_eq]; rfl
  clear KP B8
  refine hk_ _ _ ?_
  go_wp2_with fail
  go_ret
  exact ⟨rfl, B0.out⟩
end Go.Proofs.YtglgajammfcmcaaDoor.A

/- The chapter's examples, walked. -/
import Derived.Test.YtglgajammfcmcaaDoorSpoilt
import Derived.Test.YtglgajammfcmcaaDoorList0
namespace Go.Proofs.YtglgajammfcmcaaDoor.A
open Go.RowKit Go.Shelf Go.Proofs.YtglgajammfcmcaaDoorW.PrintWords Go.Proofs.YtglgajammfcmcaaDoorW.PrintLast Go.Proofs.YtglgajammfcmcaaDoorW.PrintMore
set_option linter.unusedVariables false
set_option linter.unusedSimpArgs false

def d1 : DealR := ⟨(⟨#[100, 49]⟩ : ByteArray), (⟨#[]⟩ : ByteArray), (⟨#[]⟩ : ByteArray), (⟨#[]⟩ : ByteArray), (⟨#[]⟩ : ByteArray), (⟨#[]⟩ : ByteArray), (⟨#[]⟩ : ByteArray), (⟨#[114, 105, 103, 97]⟩ : ByteArray), (⟨#[111, 115, 108, 111]⟩ : ByteArray), (⟨#[85, 83, 68]⟩ : ByteArray), 500, none, 0, 0, 0, 0, 0, 0, 0⟩
theorem inv0_calls (w : World) (hg : Glob w) : Calls Tryd.prog 9 #[.agg #[.string (⟨#[100, 49]⟩ : ByteArray), .string (⟨#[]⟩ : ByteArray), .string (⟨#[]⟩ : ByteArray), .string (⟨#[]⟩ : ByteArray), .string (⟨#[]⟩ : ByteArray), .string (⟨#[]⟩ : ByteArray), .string (⟨#[]⟩ : ByteArray), .string (⟨#[114, 105, 103, 97]⟩ : ByteArray), .string (⟨#[111, 115, 108, 111]⟩ : ByteArray), .string (⟨#[85, 83, 68]⟩ : ByteArray), .int .i64 500, .slice none 0 0, .int .i64 0, .int .i64 0, .int .i64 0, .int .i64 0, .int .i64 0]] w fun e w' => ∃ v, e = .returned (.agg #[.int .i64 0, .string (⟨#[105, 118, 45, 100, 49]⟩ : ByteArray), .string (⟨#[]⟩ : ByteArray), v]) ∧ Kd.R k42 42 w' w.heap.size (fun _ => True) v (invoiceF d1) ∧ Below w.heap.size w w' :=
  invoice_calls d1 (by decide) (by decide) (by decide) (by decide) w hg
theorem pack0_calls (w : World) (hg : Glob w) : Calls Tryd.prog 11 #[.agg #[.string (⟨#[100, 49]⟩ : ByteArray), .string (⟨#[]⟩ : ByteArray), .string (⟨#[]⟩ : ByteArray), .string (⟨#[]⟩ : ByteArray), .string (⟨#[]⟩ : ByteArray), .string (⟨#[]⟩ : ByteArray), .string (⟨#[]⟩ : ByteArray), .string (⟨#[114, 105, 103, 97]⟩ : ByteArray), .string (⟨#[111, 115, 108, 111]⟩ : ByteArray), .string (⟨#[85, 83, 68]⟩ : ByteArray), .int .i64 500, .slice none 0 0, .int .i64 0, .int .i64 0, .int .i64 0, .int .i64 0, .int .i64 0]] w fun e w' => ∃ v, e = .returned (.agg #[.int .i64 1, .string (⟨#[112, 107, 45, 100, 49]⟩ : ByteArray), .string (⟨#[]⟩ : ByteArray), v]) ∧ Kd.R k42 42 w' w.heap.size (fun _ => True) v (packingF d1 (⟨#[]⟩ : ByteArray) (⟨#[97, 108, 108, 10]⟩ : ByteArray)) ∧ Below w.heap.size w w' :=
  packing_calls d1 (⟨#[]⟩ : ByteArray) (⟨#[97, 108, 108, 10]⟩ : ByteArray) (by decide) (by decide) w hg (fun w2 _ => marks0_calls 0 w2) (fun w2 _ => list0_calls 0 w2)
theorem get1 : getP (⟨#[115, 117, 109]⟩ : ByteArray) (invoiceF d1) = ((⟨#[53, 48, 48]⟩ : ByteArray), true) := by kernel_rfl
theorem inv1_calls (w : World) (hg : Glob w) : Calls Tryd.prog 9 #[.agg #[.string (⟨#[100, 49]⟩ : ByteArray), .string (⟨#[]⟩ : ByteArray), .string (⟨#[]⟩ : ByteArray), .string (⟨#[]⟩ : ByteArray), .string (⟨#[]⟩ : ByteArray), .string (⟨#[]⟩ : ByteArray), .string (⟨#[]⟩ : ByteArray), .string (⟨#[114, 105, 103, 97]⟩ : ByteArray), .string (⟨#[111, 115, 108, 111]⟩ : ByteArray), .string (⟨#[85, 83, 68]⟩ : ByteArray), .int .i64 500, .slice none 0 0, .int .i64 0, .int .i64 0, .int .i64 0, .int .i64 0, .int .i64 0]] w fun e w' => ∃ A n c, e = .returned (.agg #[.int .i64 0, .string (⟨#[105, 118, 45, 100, 49]⟩ : ByteArray), .string (⟨#[]⟩ : ByteArray), .slice A n c]) ∧ (∀ w2, Below w'.heap.size w' w2 → Calls Tryd.prog 6 #[.slice A n c, .string (⟨#[115, 117, 109]⟩ : ByteArray)] w2 fun e w3 => e = .returned (.tuple #[.string (⟨#[53, 48, 48]⟩ : ByteArray), .bool true]) ∧ Below w2.heap.size w2 w3) ∧ Below w.heap.size w w' := by
  refine (inv0_calls w hg).mono ?_
  rintro e w' ⟨u, rfl, hR, hB⟩
  obtain ⟨A, c, rfl, _, hC⟩ := Kd.R_reads hR
  refine ⟨A, _, c, rfl, fun w2 h2 => ?_, hB⟩
  have h := get_calls A c (invoiceF d1) (⟨#[115, 117, 109]⟩ : ByteArray) w2 (Kd.C_below hC h2)
  rw [get1] at h
  exact h
theorem pack1_calls (w : World) (hg : Glob w) : Calls Tryd.prog 11 #[.agg #[.string (⟨#[100, 49]⟩ : ByteArray), .string (⟨#[]⟩ : ByteArray), .string (⟨#[]⟩ : ByteArray), .string (⟨#[]⟩ : ByteArray), .string (⟨#[]⟩ : ByteArray), .string (⟨#[]⟩ : ByteArray), .string (⟨#[]⟩ : ByteArray), .string (⟨#[114, 105, 103, 97]⟩ : ByteArray), .string (⟨#[111, 115, 108, 111]⟩ : ByteArray), .string (⟨#[85, 83, 68]⟩ : ByteArray), .int .i64 500, .slice none 0 0, .int .i64 0, .int .i64 0, .int .i64 0, .int .i64 0, .int .i64 0]] w fun e w' => ∃ A n c, e = .returned (.agg #[.int .i64 1, .string (⟨#[112, 107, 45, 100, 49]⟩ : ByteArray), .string (⟨#[]⟩ : ByteArray), .slice A n c]) ∧ Below w.heap.size w w' := by
  refine (pack0_calls w hg).mono ?_
  rintro e w' ⟨u, rfl, hR, hB⟩
  obtain ⟨A, c, rfl⟩ := Kd.R_slice hR
  exact ⟨A, _, c, rfl, hB⟩
theorem two_docs {w : World} {g : Nat} {k0 k1 : Int} {a0 b0 a1 b1 : ByteArray} {A0 A1 : Option Addr} {n0 c0 n1 c1 : Nat} (h : w.heap[g]? = some (.cells #[.int .i64 k0, .string a0, .string b0, .slice A0 n0 c0, .int .i64 k1, .string a1, .string b1, .slice A1 n1 c1] 24 (0, 0))) :
    Kd.C (Kd.raw 4) w (some ⟨g, 0, none⟩) 2 [docL k0 a0 b0 A0 n0 c0, docL k1 a1 b1 A1 n1 c1] := by
  refine ⟨rfl, by decide, fun _ => ⟨_, rfl, fun j p hp => ⟨p, ?_, ?_, fun i u hu => ?_⟩⟩⟩
  · rcases j with _ | _ | j
    · injection hp with hp; subst hp; rfl
    · injection hp with hp; subst hp; rfl
    · simp at hp
  · rcases j with _ | _ | j
    · injection hp with hp; subst hp; exact docL_raw w _ _ _ _ _ _
    · injection hp with hp; subst hp; exact docL_raw w _ _ _ _ _ _
    · simp at hp
  · rw [add0, blk_cell h]
    rcases j with _ | _ | j
    · injection hp with hp; subst hp
      rcases i with _ | _ | _ | _ | i
      · exact hu
      · exact hu
      · exact hu
      · exact hu
      · simp [docL] at hu
    · injection hp with hp; subst hp
      rcases i with _ | _ | _ | _ | i
      · exact hu
      · exact hu
      · exact hu
      · exact hu
      · simp [docL] at hu
    · simp at hp
def awk.T4 : Bool × List (List Nat × List Nat) := (true, [([], []), ([], []), ([1], [1]), ([0, 2], [0, 2]), ([3, 2], [3]), ([4, 4, 0, 1, 2, 3, 4], [4])])
def awk.B4 : List Nat := [0, 0, 2, 7, 15, 31]
theorem awk.tab4 : rtab .any (opsOf Tryd.f4 4) = awk.T4 := by kernel_rfl
theorem awk.bits4 : waitsOk awk.T4.2 awk.B4 = true := by kernel_rfl
set_option maxHeartbeats 4000000 in
set_option maxRecDepth 100000 in
theorem awake_r4 (o : Nat) (w : World) (DV : Value) (A : Option Addr) (nI c gp : Nat) (w5 : World) (K : Act → World → Prop) (Q' : Exit → Act → World → Prop)
    (HPK : Aside0 (∀ w2, Below o w w2 → Calls Tryd.prog 11 #[DV] w2 fun e w' => ∃ A n c, e = .returned (.agg #[.int .i64 1, .string (⟨#[112, 107, 45, 100, 49]⟩ : ByteArray), .string (⟨#[]⟩ : ByteArray), .slice A n c]) ∧ Below w2.heap.size w2 w'))
    (hQ : ∀ c (a : Act) (t : Tmp) v w, Q' (.panic c) (a.put (some t) v) w → Q' (.panic c) a w) (hDV : Aside0 (.agg #[.string (⟨#[100, 49]⟩ : ByteArray), .string (⟨#[]⟩ : ByteArray), .string (⟨#[]⟩ : ByteArray), .string (⟨#[]⟩ : ByteArray), .string (⟨#[]⟩ : ByteArray), .string (⟨#[]⟩ : ByteArray), .string (⟨#[]⟩ : ByteArray), .string (⟨#[114, 105, 103, 97]⟩ : ByteArray), .string (⟨#[111, 115, 108, 111]⟩ : ByteArray), .string (⟨#[85, 83, 68]⟩ : ByteArray), .int .i64 500, .slice none 0 0, .int .i64 0, .int .i64 0, .int .i64 0, .int .i64 0, .int .i64 0] = DV)) (ho : Aside0 (o = w.heap.size))
    (KD : Aside0 (w5.drew.heap[o]? = some (.cells #[.string (⟨#[100, 49]⟩ : ByteArray), .string (⟨#[]⟩ : ByteArray), .string (⟨#[]⟩ : ByteArray), .string (⟨#[]⟩ : ByteArray), .string (⟨#[]⟩ : ByteArray), .string (⟨#[]⟩ : ByteArray), .string (⟨#[]⟩ : ByteArray), .string (⟨#[114, 105, 103, 97]⟩ : ByteArray), .string (⟨#[111, 115, 108, 111]⟩ : ByteArray), .string (⟨#[85, 83, 68]⟩ : ByteArray), .int .i64 500, .slice none 0 0, .int .i64 0, .int .i64 0, .int .i64 0, .int .i64 0, .int .i64 0] 36 (0, 0)))) (KP : Aside0 (w5.drew.heap[gp]? = some (.cells #[.int .i64 0, .string (⟨#[105, 118, 45, 100, 49]⟩ : ByteArray), .string (⟨#[]⟩ : ByteArray), .slice A nI c] 24 (0, 0)))) (B0 : Aside0 (Below o w w5.drew))
    (hK : ∀ w8 g cq t16 t17 t18 t19, w8.heap[gp]? = some (.cells #[.int .i64 0, .string (⟨#[105, 118, 45, 100, 49]⟩ : ByteArray), .string (⟨#[]⟩ : ByteArray), .slice A nI c] 24 (0, 0)) → w8.cell? ⟨g, 0, none⟩ = some (.int .i64 0) → Below o w w8 →
      K { tmps := List.toArray ((.bool false) :: (.pointer (some ⟨o, 0, none⟩)) :: (.pointer (some ⟨gp, 0, none⟩)) :: (.string (⟨#[53, 48, 48]⟩ : ByteArray)) :: (.bool true) :: (.slice (some ⟨g, 0, none⟩) 1 cq) :: (.agg #[.string (⟨#[85, 83, 68]⟩ : ByteArray), .int .i64 500]) :: DV :: DV :: (.agg #[.int .i64 0, .string (⟨#[105, 118, 45, 100, 49]⟩ : ByteArray), .string (⟨#[]⟩ : ByteArray), .slice A nI c]) :: (.tuple #[.string (⟨#[53, 48, 48]⟩ : ByteArray), .bool true]) :: (.pointer (some ⟨gp, 3, none⟩)) :: (.slice A nI c) :: (.tuple #[.string (⟨#[53, 48, 48]⟩ : ByteArray), .bool true]) :: (.string (⟨#[53, 48, 48]⟩ : ByteArray)) :: (.bool true) :: t16 :: t17 :: t18 :: t19 :: (.slice (some ⟨g, 0, none⟩) 1 cq) :: undef :: undef :: undef :: undef :: undef :: undef :: undef :: undef :: undef :: undef :: undef :: undef :: undef :: undef :: undef :: undef :: undef :: undef :: undef :: undef :: undef :: undef :: []), defers := [] } w8) :
    Code.wp Tryd.prog (Code.region 4 (opsOf Tryd.f4 4) true) (Exit.then K Q')
      { tmps := List.toArray ((.bool false) :: (.pointer (some ⟨o, 0, none⟩)) :: (.pointer (some ⟨gp, 0, none⟩)) :: (.string (⟨#[53, 48, 48]⟩ : ByteArray)) :: (.bool true) :: undef :: (.agg #[.string (⟨#[85, 83, 68]⟩ : ByteArray), .int .i64 500]) :: DV :: DV :: (.agg #[.int .i64 0, .string (⟨#[105, 118, 45, 100, 49]⟩ : ByteArray), .string (⟨#[]⟩ : ByteArray), .slice A nI c]) :: (.tuple #[.string (⟨#[53, 48, 48]⟩ : ByteArray), .bool true]) :: (.pointer (some ⟨gp, 3, none⟩)) :: (.slice A nI c) :: (.tuple #[.string (⟨#[53, 48, 48]⟩ : ByteArray), .bool true]) :: (.string (⟨#[53, 48, 48]⟩ : ByteArray)) :: (.bool true) :: undef :: undef :: undef :: undef :: undef :: undef :: undef :: undef :: undef :: undef :: undef :: undef :: undef :: undef :: undef :: undef :: undef :: undef :: undef :: undef :: undef :: undef :: undef :: undef :: undef :: undef :: undef :: []), defers := [] } w5 := by
  conv in (opsOf _ _) => whnf
  refine start_ (n := 6) (S := fun w' => w'.heap[o]? = some (.cells #[.string (⟨#[100, 49]⟩ : ByteArray), .string (⟨#[]⟩ : ByteArray), .string (⟨#[]⟩ : ByteArray), .string (⟨#[]⟩ : ByteArray), .string (⟨#[]⟩ : ByteArray), .string (⟨#[]⟩ : ByteArray), .string (⟨#[]⟩ : ByteArray), .string (⟨#[114, 105, 103, 97]⟩ : ByteArray), .string (⟨#[111, 115, 108, 111]⟩ : ByteArray), .string (⟨#[85, 83, 68]⟩ : ByteArray), .int .i64 500, .slice none 0 0, .int .i64 0, .int .i64 0, .int .i64 0, .int .i64 0, .int .i64 0] 36 (0, 0)) ∧ w'.heap[gp]? = some (.cells #[.int .i64 0, .string (⟨#[105, 118, 45, 100, 49]⟩ : ByteArray), .string (⟨#[]⟩ : ByteArray), .slice A nI c] 24 (0, 0))) (ds := []) #[false, false, false, false, false, false] (by kernel_rfl) rfl rfl ⟨KD.out, KP.out⟩ (fun hHeld => ?_)
  refine with_tabW awk.tab4 awk.bits4 (fun HT_ HW_ => ?_)
  generalize w5.drew = w6 at KD KP B0 hHeld ⊢
  refine take_ (i := 0) (N := some 16) (v := ?_) (a' := ?_) #[true, false, false, false, false, false] rfl rfl (take_ofW HT_.out HW_.out (by kernel_rfl)) (fun _ _ _ h => hQ _ _ _ _ _ h) (Or.inl ⟨by rfl, ?_⟩) hHeld ?_ ?_
  rotate_left
  · rintro w' hq
    obtain ⟨hq1, hq2⟩ := hq
    have p0 : w'.cell? ⟨gp, 0, none⟩ = some (.int .i64 0) := (blk_cell hq2 0).trans rfl
    have p1 : w'.cell? ⟨gp, 1, none⟩ = some (.string (⟨#[105, 118, 45, 100, 49]⟩ : ByteArray)) := (blk_cell hq2 1).trans rfl
    have p2 : w'.cell? ⟨gp, 2, none⟩ = some (.string (⟨#[]⟩ : ByteArray)) := (blk_cell hq2 2).trans rfl
    have p3 : w'.cell? ⟨gp, 3, none⟩ = some (.slice A nI c) := (blk_cell hq2 3).trans rfl
    go_simp
    with_reducible rfl
  rotate_left
  · simp only [Act.put, List.setIfInBounds_toArray, List.set_cons_zero, List.set_cons_succ, i64_w, i32_w]
    rfl
  refine take_ (i := 1) (N := some 17) (v := DV) (a' := ?_) #[true, true, false, false, false, false] rfl rfl (take_ofW HT_.out HW_.out (by kernel_rfl)) (fun _ _ _ h => hQ _ _ _ _ _ h) (Or.inl ⟨by rfl, ?_⟩) hHeld ?_ ?_
  · rintro w' ⟨hq1, hq2⟩
    rw [← hDV.out]
    have p0 : w'.cell? ⟨o, 0, none⟩ = some (.string (⟨#[100, 49]⟩ : ByteArray)) := (blk_cell hq1 0).trans rfl
    have p1 : w'.cell? ⟨o, 1, none⟩ = some (.string (⟨#[]⟩ : ByteArray)) := (blk_cell hq1 1).trans rfl
    have p2 : w'.cell? ⟨o, 2, none⟩ = some (.string (⟨#[]⟩ : ByteArray)) := (blk_cell hq1 2).trans rfl
    have p3 : w'.cell? ⟨o, 3, none⟩ = some (.string (⟨#[]⟩ : ByteArray)) := (blk_cell hq1 3).trans rfl
    have p4 : w'.cell? ⟨o, 4, none⟩ = some (.string (⟨#[]⟩ : ByteArray)) := (blk_cell hq1 4).trans rfl
    have p5 : w'.cell? ⟨o, 5, none⟩ = some (.string (⟨#[]⟩ : ByteArray)) := (blk_cell hq1 5).trans rfl
    have p6 : w'.cell? ⟨o, 6, none⟩ = some (.string (⟨#[]⟩ : ByteArray)) := (blk_cell hq1 6).trans rfl
    have p7 : w'.cell? ⟨o, 7, none⟩ = some (.string (⟨#[114, 105, 103, 97]⟩ : ByteArray)) := (blk_cell hq1 7).trans rfl
    have p8 : w'.cell? ⟨o, 8, none⟩ = some (.string (⟨#[111, 115, 108, 111]⟩ : ByteArray)) := (blk_cell hq1 8).trans rfl
    have p9 : w'.cell? ⟨o, 9, none⟩ = some (.string (⟨#[85, 83, 68]⟩ : ByteArray)) := (blk_cell hq1 9).trans rfl
    have p10 : w'.cell? ⟨o, 10, none⟩ = some (.int .i64 500) := (blk_cell hq1 10).trans rfl
    have p11 : w'.cell? ⟨o, 11, none⟩ = some (.slice none 0 0) := (blk_cell hq1 11).trans rfl
    have p12 : w'.cell? ⟨o, 12, none⟩ = some (.int .i64 0) := (blk_cell hq1 12).trans rfl
    have p13 : w'.cell? ⟨o, 13, none⟩ = some (.int .i64 0) := (blk_cell hq1 13).trans rfl
    have p14 : w'.cell? ⟨o, 14, none⟩ = some (.int .i64 0) := (blk_cell hq1 14).trans rfl
    have p15 : w'.cell? ⟨o, 15, none⟩ = some (.int .i64 0) := (blk_cell hq1 15).trans rfl
    have p16 : w'.cell? ⟨o, 16, none⟩ = some (.int .i64 0) := (blk_cell hq1 16).trans rfl
    clear hq1 hq2
    go_simp
  rotate_left
  · simp only [Act.put, List.setIfInBounds_toArray, List.set_cons_zero, List.set_cons_succ, i64_w, i32_w]
    rfl
  refine one_ (i := 2) (N := some 18) #[true, true, true, false, false, false] rfl rfl (one_of HT_.out (by kernel_rfl)) (by decide) (fun K hK => ?_)
  refine goes_ Tryd.func11 (by kernel_rfl) rfl #[DV] (by rfl) rfl rfl (by first | (go_simp; done) | (go_simp; rfl)) ?_
  refine (HPK.out w6 B0.out).mono ?_
  rintro e w7 ⟨A2, nP, c2, rfl, hB⟩
  refine ⟨_, rfl, ?_⟩
  replace KD := Aside0.mk (blk_below' KD.out hB)
  replace KP := Aside0.mk (blk_below' KP.out hB)
  replace B0 := Aside0.mk (B0.out.trans (hB.mono (Nat.le_trans (Nat.le_of_eq ho.out) B0.out.size)))
  clear hB HPK
  refine hK.out _ _ ⟨KD.out, KP.out⟩ (fun hHeld => ?_)
  clear hK K
  refine norm_ (a' := ?_) ?_ ?_
  rotate_left
  · show Act.put _ (some 18) _ = _
    simp only [Act.put, List.setIfInBounds_toArray, List.set_cons_zero, List.set_cons_succ, i64_w, i32_w]
    rfl
  refine one_ (i := 3) (N := some 19) #[true, true, true, true, false, false] rfl rfl (one_of HT_.out (by kernel_rfl)) (by decide) (fun K hK => ?_)
  refine event_step (v := .slice (some ⟨w7.heap.size, 0, none⟩) 2 2) (w1 := w7.alloc (.cells #[.int .i64 0, .string (⟨#[105, 118, 45, 100, 49]⟩ : ByteArray), .string (⟨#[]⟩ : ByteArray), .slice A nI c, .int .i64 1, .string (⟨#[112, 107, 45, 100, 49]⟩ : ByteArray), .string (⟨#[]⟩ : ByteArray), .slice A2 nP c2] 24)) (by rfl) (by first | (go_simp; done) | (go_simp; rfl)) ?_
  replace KD := Aside0.mk (blk_alloc KD.out (.cells #[.int .i64 0, .string (⟨#[105, 118, 45, 100, 49]⟩ : ByteArray), .string (⟨#[]⟩ : ByteArray), .slice A nI c, .int .i64 1, .string (⟨#[112, 107, 45, 100, 49]⟩ : ByteArray), .string (⟨#[]⟩ : ByteArray), .slice A2 nP c2] 24))
  replace KP := Aside0.mk (blk_alloc KP.out (.cells #[.int .i64 0, .string (⟨#[105, 118, 45, 100, 49]⟩ : ByteArray), .string (⟨#[]⟩ : ByteArray), .slice A nI c, .int .i64 1, .string (⟨#[112, 107, 45, 100, 49]⟩ : ByteArray), .string (⟨#[]⟩ : ByteArray), .slice A2 nP c2] 24))
  have HS := Aside0.mk (spoilt2_calls (⟨#[105, 118, 45, 100, 49]⟩ : ByteArray) (⟨#[]⟩ : ByteArray) (⟨#[112, 107, 45, 100, 49]⟩ : ByteArray) (⟨#[]⟩ : ByteArray) A A2 nI c nP c2 ⟨w7.heap.size, 0, none⟩ 2 (w7.alloc (.cells #[.int .i64 0, .string (⟨#[105, 118, 45, 100, 49]⟩ : ByteArray), .string (⟨#[]⟩ : ByteArray), .slice A nI c, .int .i64 1, .string (⟨#[112, 107, 45, 100, 49]⟩ : ByteArray), .string (⟨#[]⟩ : ByteArray), .slice A2 nP c2] 24)) (two_docs (heap_alloc_new w7 _)))
  replace B0 := Aside0.mk (B0.out.alloc (Nat.le_trans (Nat.le_of_eq ho.out) B0.out.size) (.cells #[.int .i64 0, .string (⟨#[105, 118, 45, 100, 49]⟩ : ByteArray), .string (⟨#[]⟩ : ByteArray), .slice A nI c, .int .i64 1, .string (⟨#[112, 107, 45, 100, 49]⟩ : ByteArray), .string (⟨#[]⟩ : ByteArray), .slice A2 nP c2] 24))
  refine hK.out _ _ ⟨KD.out, KP.out⟩ (fun hHeld => ?_)
  clear hK K
  refine norm_ (a' := ?_) ?_ ?_
  rotate_left
  · show Act.put _ (some 19) _ = _
    simp only [Act.put, List.setIfInBounds_toArray, List.set_cons_zero, List.set_cons_succ, i64_w, i32_w]
    rfl
  refine one_ (i := 4) (N := some 20) #[true, true, true, true, true, false] rfl rfl (one_of HT_.out (by kernel_rfl)) (by decide) (fun K hK => ?_)
  refine goes_ Tryd.func10 (by kernel_rfl) rfl #[.int .i64 2, .slice (some ⟨w7.heap.size, 0, none⟩) 2 2] (by rfl) rfl rfl (by first | (go_simp; done) | (go_simp; rfl)) ?_
  refine HS.out.mono ?_
  rintro e w8 ⟨g, cq, rfl, hq0, hB⟩
  refine ⟨_, rfl, ?_⟩
  replace KD := Aside0.mk (blk_below' KD.out hB)
  replace KP := Aside0.mk (blk_below' KP.out hB)
  replace B0 := Aside0.mk (B0.out.trans (hB.mono (Nat.le_trans (Nat.le_of_eq ho.out) B0.out.size)))
  replace hq0 := Aside0.mk hq0
  clear hB HS
  refine hK.out _ _ ⟨KD.out, KP.out⟩ (fun hHeld => ?_)
  clear hK K
  refine norm_ (a' := ?_) ?_ ?_
  rotate_left
  · show Act.put _ (some 20) _ = _
    simp only [Act.put, List.setIfInBounds_toArray, List.set_cons_zero, List.set_cons_succ, i64_w, i32_w]
    rfl
  refine pure_ (i := 5) (N := some 5) (v := ?_) (a' := ?_) #[true, true, true, true, true, true] rfl rfl (any_of HT_.out (by kernel_rfl)) (fun _ _ _ h => hQ _ _ _ _ _ h) (Or.inl ⟨by rfl, ?_⟩) ?_ ?_
  rotate_left
  · intro w'
    go_simp
    with_reducible rfl
  rotate_left
  · simp only [Act.put, List.setIfInBounds_toArray, List.set_cons_zero, List.set_cons_succ, i64_w, i32_w]
    rfl
  refine done_ (done_of HT_.out (by kernel_rfl)) ?_
  exact hK _ _ _ _ _ _ _ KP.out hq0.out B0.out
end Go.Proofs.YtglgajammfcmcaaDoor.A

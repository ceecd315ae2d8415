/- The law's own trial: awake. -/
import Derived.Test.YtlgcceojnbobeaaDoorClash
import Derived.Test.YtlgcceojnbobeaaDoorType
namespace Go.Proofs.YtlgcceojnbobeaaDoor.A
open Go.RowKit Go.Shelf Go.Proofs.YtlgcceojnbobeaaDoorW.PrintWords Go.Proofs.YtlgcceojnbobeaaDoorW.PrintLast Go.Proofs.YtlgcceojnbobeaaDoorW.PrintMore
set_option linter.unusedVariables false
set_option linter.unusedSimpArgs false

def x5 : S24 := ⟨5, 0, ⟨#[115, 117, 109]⟩, ⟨#[]⟩, 5, []⟩
def x6 : S24 := ⟨6, 0, ⟨#[115, 117, 109]⟩, ⟨#[]⟩, 6, []⟩
def xAll : S24 := ⟨0, 0, ⟨#[]⟩, ⟨#[]⟩, 0, [x5, x6]⟩
def xAny : S24 := ⟨1, 0, ⟨#[]⟩, ⟨#[]⟩, 0, [x5, x6]⟩
theorem cases_all56 : casesP xAll = [[nCore x5, nCore x6]] := by simp [xAll, casesP, allP, x5, x6, cross, nCore]
theorem cases_any56 : casesP xAny = [[nCore x5], [nCore x6]] := by simp [xAny, casesP, anyP, x5, x6, nCore]
theorem clash_all56 : clashP xAll = true := by
  unfold clashP
  have e : okP xAll = true := by
    have h : casesP ⟨0, 0, ⟨#[]⟩, ⟨#[]⟩, 0, [x5, x6]⟩ = _ := cases_all56
    unfold xAll okP
    rw [h]
    simp [okL, okP, x5, x6]
  rw [if_pos e, cases_all56]
  simp [clashC, apartP, nCore, x5, x6]
theorem clash_any56 : clashP xAny = false := by
  unfold clashP
  have e : okP xAny = true := by
    have h : casesP ⟨1, 0, ⟨#[]⟩, ⟨#[]⟩, 0, [x5, x6]⟩ = _ := cases_any56
    unfold xAny okP
    rw [h]
    simp [okL, okP, x5, x6]
  rw [if_pos e, cases_any56]
  simp [clashC, apartP, nCore, x5, x6]
theorem val12 : valP (⟨#[49, 50]⟩ : ByteArray).data.toList 1 = (12, true) := by decide +kernel
def sumB : ByteArray := ⟨#[115, 117, 109]⟩
theorem leaf_K (W : World) (x : S24) (h : x.f5 = []) : k24.K W x [.int .i64 x.f0, .int .i64 x.f1, .string x.f2, .string x.f3, .int .i64 x.f4, .slice none 0 0] := by
  have := k24_mk W x (A5 := none) (c5 := 0) (by rw [h]; exact Nat.le_refl _) (by rw [h]; exact ⟨rfl, by simp, fun h => absurd h (by simp)⟩)
  rwa [h] at this
theorem two_C {W : World} {b : Nat} (hb : W.heap[b]? = some (.cells #[.int .i64 5, .int .i64 0, .string ⟨#[115, 117, 109]⟩, .string ⟨#[]⟩, .int .i64 5, .slice none 0 0, .int .i64 6, .int .i64 0, .string ⟨#[115, 117, 109]⟩, .string ⟨#[]⟩, .int .i64 6, .slice none 0 0] 24 (0, 0))) : Kd.C k24 W (some ⟨b, 0, none⟩) 2 [x5, x6] := by
  refine ⟨rfl, by decide, fun _ => ⟨_, rfl, fun j p hp => ?_⟩⟩
  match j with
  | 0 =>
    simp only [List.getElem?_cons_zero, Option.some.injEq] at hp
    subst hp
    refine ⟨_, rfl, leaf_K W x5 rfl, fun i u hu => ?_⟩
    have e1 : (Addr.add ⟨b, 0, none⟩ (0 * 6 + i)) = ⟨b, i, none⟩ := by rw [Addr.add]; simp; rintro rfl; rfl
    have hi : i < 6 := by
      have := (List.getElem?_eq_some_iff.1 hu).1
      exact this
    show W.cell? (Addr.add ⟨b, 0, none⟩ (0 * 6 + i)) = some u
    rw [e1, blk_cell hb i, ← hu]
    match i, hi with
    | 0, _ => rfl
    | 1, _ => rfl
    | 2, _ => rfl
    | 3, _ => rfl
    | 4, _ => rfl
    | 5, _ => rfl
  | 1 =>
    simp only [List.getElem?_cons_succ, List.getElem?_cons_zero, Option.some.injEq] at hp
    subst hp
    refine ⟨_, rfl, leaf_K W x6 rfl, fun i u hu => ?_⟩
    have e1 : (Addr.add ⟨b, 0, none⟩ (1 * 6 + i)) = ⟨b, 6 + i, none⟩ := by rw [Addr.add, if_neg (by omega)]; simp
    have hi : i < 6 := by
      have := (List.getElem?_eq_some_iff.1 hu).1
      exact this
    show W.cell? (Addr.add ⟨b, 0, none⟩ (1 * 6 + i)) = some u
    rw [e1, blk_cell hb (6 + i), ← hu]
    match i, hi with
    | 0, _ => rfl
    | 1, _ => rfl
    | 2, _ => rfl
    | 3, _ => rfl
    | 4, _ => rfl
    | 5, _ => rfl
  | j + 2 => simp at hp
theorem all_calls (W : World) (b : Nat) (hg : Glob W) (hb : W.heap[b]? = some (.cells #[.int .i64 5, .int .i64 0, .string ⟨#[115, 117, 109]⟩, .string ⟨#[]⟩, .int .i64 5, .slice none 0 0, .int .i64 6, .int .i64 0, .string ⟨#[115, 117, 109]⟩, .string ⟨#[]⟩, .int .i64 6, .slice none 0 0] 24 (0, 0))) : Calls Tryd.prog 7 #[.agg #[.int .i64 0, .int .i64 0, .string ⟨#[]⟩, .string ⟨#[]⟩, .int .i64 0, .slice (some ⟨b, 0, none⟩) 2 2]] W fun e w' => e = .returned (.bool true) ∧ Below W.heap.size W w' := by
  have h := clash_calls 0 0 0 ⟨#[]⟩ ⟨#[]⟩ [x5, x6] (some ⟨b, 0, none⟩) 2 W (by simp [nodes, nodesL, x5, x6]) (fun row hr c hc => by
    have e : casesP ⟨0, 0, ⟨#[]⟩, ⟨#[]⟩, 0, [x5, x6]⟩ = _ := cases_all56
    rw [e] at hr
    rw [List.mem_singleton.1 hr] at hc
    rcases List.mem_cons.1 hc with rfl | hc
    · decide
    · rw [List.mem_singleton.1 hc]; decide) hg (two_C hb) (Nat.le_refl _)
  rw [show clashP ⟨0, 0, ⟨#[]⟩, ⟨#[]⟩, 0, [x5, x6]⟩ = true from clash_all56] at h
  exact h
theorem any_calls (W : World) (b : Nat) (hg : Glob W) (hb : W.heap[b]? = some (.cells #[.int .i64 5, .int .i64 0, .string ⟨#[115, 117, 109]⟩, .string ⟨#[]⟩, .int .i64 5, .slice none 0 0, .int .i64 6, .int .i64 0, .string ⟨#[115, 117, 109]⟩, .string ⟨#[]⟩, .int .i64 6, .slice none 0 0] 24 (0, 0))) : Calls Tryd.prog 7 #[.agg #[.int .i64 1, .int .i64 0, .string ⟨#[]⟩, .string ⟨#[]⟩, .int .i64 0, .slice (some ⟨b, 0, none⟩) 2 2]] W fun e w' => e = .returned (.bool false) ∧ Below W.heap.size W w' := by
  have h := clash_calls 1 0 0 ⟨#[]⟩ ⟨#[]⟩ [x5, x6] (some ⟨b, 0, none⟩) 2 W (by simp [nodes, nodesL, x5, x6]) (fun row hr c hc => by
    have e : casesP ⟨1, 0, ⟨#[]⟩, ⟨#[]⟩, 0, [x5, x6]⟩ = _ := cases_any56
    rw [e] at hr
    rcases List.mem_cons.1 hr with rfl | hr
    · rw [List.mem_singleton.1 hc]; decide
    · rw [List.mem_singleton.1 hr] at hc
      rw [List.mem_singleton.1 hc]; decide) hg (two_C hb) (Nat.le_refl _)
  rw [show clashP ⟨1, 0, ⟨#[]⟩, ⟨#[]⟩, 0, [x5, x6]⟩ = false from clash_any56] at h
  exact h
set_option maxHeartbeats 4000000 in
set_option maxRecDepth 100000 in
theorem awake_calls (w : World) (hg : Glob w) : Calls Tryd.prog 6 #[] w fun e w' => e = .returned (.bool true) ∧ Below w.heap.size w w' := by
  have HG := Aside0.mk hg
  have FB : Aside0 (∀ o o', Below w.heap.size w ((w.alloc o).alloc o')) := ⟨fun o o' => two_below w o o'⟩
  have HV : Aside0 (∀ w1, Glob w1 → Calls Tryd.prog 10 #[.string ⟨#[49, 50]⟩, .int .i64 1] w1 fun e w' => e = .returned (.tuple #[.int .i64 12, .bool true]) ∧ Below w1.heap.size w1 w') := ⟨fun w1 h => by have := value_calls ⟨#[49, 50]⟩ 1 (by decide) w1 h; rwa [val12] at this⟩
  have FX : Aside0 (∀ w2, Below (((w.alloc (.cells (nodeC ⟨5, ⟨#[115, 117, 109]⟩, ⟨#[]⟩, 5⟩ 0 (.slice none 0 0)) 24)).alloc (.cells (nodeC ⟨6, ⟨#[115, 117, 109]⟩, ⟨#[]⟩, 6⟩ 0 (.slice none 0 0)) 24))).heap.size ((w.alloc (.cells (nodeC ⟨5, ⟨#[115, 117, 109]⟩, ⟨#[]⟩, 5⟩ 0 (.slice none 0 0)) 24)).alloc (.cells (nodeC ⟨6, ⟨#[115, 117, 109]⟩, ⟨#[]⟩, 6⟩ 0 (.slice none 0 0)) 24)) w2 → Box24 w2 w.heap.size ⟨5, ⟨#[115, 117, 109]⟩, ⟨#[]⟩, 5⟩ 0 (.slice none 0 0) ∧ Box24 w2 (w.heap.size + 1) ⟨6, ⟨#[115, 117, 109]⟩, ⟨#[]⟩, 6⟩ 0 (.slice none 0 0)) := ⟨fun w2 hb => ⟨((box_at w 5 0 5 ⟨#[115, 117, 109]⟩ ⟨#[]⟩ (.slice none 0 0)).below (below_alloc (Below.refl _ _) _)).below hb, by
    have h := (box_at (w.alloc (.cells (nodeC ⟨5, ⟨#[115, 117, 109]⟩, ⟨#[]⟩, 5⟩ 0 (.slice none 0 0)) 24)) 6 0 6 ⟨#[115, 117, 109]⟩ ⟨#[]⟩ (.slice none 0 0)).below hb
    rwa [World.size_alloc] at h⟩⟩
  unfold nodeC at FX
  clear hg
  go_enter Tryd.func6, Tryd.ntmps6
  go_wp2_with fail
  refine (HV.out _ (HG.out.below (FB.out _ _))).mono ?_
  rintro e w1 ⟨rfl, hB1⟩
  obtain ⟨H5, H6⟩ := FX.out _ hB1
  have B1 : Aside0 (Below w.heap.size w w1) := ⟨(FB.out _ _).trans (hB1.mono (FB.out _ _).size)⟩
  have p0 := H5.c0
  have p1 := H5.c1
  have p2 := H5.c2
  have p3 := H5.c3
  have p4 := H5.c4
  have p5 := H5.c5
  have q0 := H6.c0
  have q1 := H6.c1
  have q2 := H6.c2
  have q3 := H6.c3
  have q4 := H6.c4
  have q5 := H6.c5
  simp only at p0 p1 p2 p3 p4 p5 q0 q1 q2 q3 q4 q5
  replace H5 := Aside0.mk H5
  replace H6 := Aside0.mk H6
  have HA := Aside0.mk fun (W : World) b h h' => all_calls W b h h'
  have HN := Aside0.mk fun (W : World) b h h' => any_calls W b h h'
  have FL : Aside0 (∀ (W : World) o, Below W.heap.size W (W.alloc o) ∧ (W.alloc o).heap[W.heap.size]? = some o) := ⟨fun W o => ⟨below_alloc (Below.refl _ _) _, heap_alloc_new W o⟩⟩
  clear hB1 FX HV FB
  go_wp2_with fail
  refine (HA.out _ _ ((HG.out.below B1.out).below (FL.out _ _).1) (FL.out _ _).2).mono ?_
  rintro e w2 ⟨rfl, hB2⟩
  have B12 : Aside0 (Below w1.heap.size w1 w2) := ⟨(FL.out _ _).1.trans (hB2.mono (FL.out _ _).1.size)⟩
  have B2 : Aside0 (Below w.heap.size w w2) := ⟨B1.out.trans (B12.out.mono B1.out.size)⟩
  replace p0 := cellB' B12.out p0
  replace p1 := cellB' B12.out p1
  replace p2 := cellB' B12.out p2
  replace p3 := cellB' B12.out p3
  replace p4 := cellB' B12.out p4
  replace p5 := cellB' B12.out p5
  replace q0 := cellB' B12.out q0
  replace q1 := cellB' B12.out q1
  replace q2 := cellB' B12.out q2
  replace q3 := cellB' B12.out q3
  replace q4 := cellB' B12.out q4
  replace q5 := cellB' B12.out q5
  clear hB2 B12 H5 H6
  go_wp2_with fail
  refine (HN.out _ _ ((HG.out.below B2.out).below (FL.out _ _).1) (FL.out _ _).2).mono ?_
  rintro e w3 ⟨rfl, hB3⟩
  have B23 : Aside0 (Below w2.heap.size w2 w3) := ⟨(FL.out _ _).1.trans (hB3.mono (FL.out _ _).1.size)⟩
  have B3 : Aside0 (Below w.heap.size w w3) := ⟨B2.out.trans (B23.out.mono B2.out.size)⟩
  have HT := type_calls ⟨#[105, 115, 115, 117, 101, 100]⟩ w3 (HG.out.below B3.out)
  rw [show typeP ⟨#[105, 115, 115, 117, 101, 100]⟩ = 2 from type_issued] at HT
  replace HT := Aside0.mk HT
  clear hB3 B23 HA HN FL p0 p1 p2 p3 p4 p5 q0 q1 q2 q3 q4 q5
  go_wp2_with fail
  refine HT.out.mono ?_
  rintro e w4 ⟨rfl, hB4⟩
  have B4 : Aside0 (Below w.heap.size w w4) := ⟨B3.out.trans (hB4.mono B3.out.size)⟩
  clear HT hB4
  go_wp2_with fail
  go_ret
  exact ⟨rfl, B4.out⟩
end Go.Proofs.YtlgcceojnbobeaaDoor.A

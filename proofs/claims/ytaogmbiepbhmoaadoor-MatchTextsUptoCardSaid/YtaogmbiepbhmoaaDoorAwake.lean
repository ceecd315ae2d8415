/- supercargolaw48.awake: the document's example is true. -/
import Derived.Test.YtaogmbiepbhmoaaDoorMend
namespace Go.Proofs.YtaogmbiepbhmoaaDoor.A
open Go.RowKit Go.Maps ScKit Go.Proofs.YtaogmbiepbhmoaaDoorW.PrintWords Go.Proofs.YtaogmbiepbhmoaaDoorW.PrintLast Go.Proofs.YtaogmbiepbhmoaaDoorW.PrintMore

def po (n : Int) : S29 := ⟨n, ⟨#[]⟩, []⟩
def LA : List S29 := [po 1, po 2]
def LB : List S29 := [po 2, po 3]

theorem sorted_eq {xs ys : List Int} (hx : xs.Nodup) (hxs : xs.Pairwise (· ≤ ·)) (hy : ys.Nodup) (hys : ys.Pairwise (· ≤ ·)) (h : ∀ x, x ∈ xs ↔ x ∈ ys) : xs = ys :=
  List.Perm.eq_of_pairwise (le := fun a b => a ≤ b) (fun _ _ _ _ h1 h2 => Int.le_antisymm h1 h2) hxs hys ((List.perm_ext_iff_of_nodup hx hy).2 h)

theorem firstLA (x : Int) : firstOf LA x = if x = 1 then some (po 1) else if x = 2 then some (po 2) else none := by
  unfold firstOf LA
  by_cases h1 : x = 1
  · subst h1; rfl
  · by_cases h2 : x = 2
    · subst h2; rfl
    · rw [if_neg h1, if_neg h2]
      simp [List.find?, po, show (1 == x) = false by simpa using Ne.symm h1, show (2 == x) = false by simpa using Ne.symm h2]
theorem firstLB (x : Int) : firstOf LB x = if x = 2 then some (po 2) else if x = 3 then some (po 3) else none := by
  unfold firstOf LB
  by_cases h1 : x = 2
  · subst h1; rfl
  · by_cases h2 : x = 3
    · subst h2; rfl
    · rw [if_neg h1, if_neg h2]
      simp [List.find?, po, show (2 == x) = false by simpa using Ne.symm h1, show (3 == x) = false by simpa using Ne.symm h2]
theorem likeAB (x : Int) : ¬ UnlikeAt LA LB x := by
  rintro ⟨p, q, h1, h2, h3⟩
  rw [firstLA] at h1
  rw [firstLB] at h2
  split at h1
  · subst x; simp at h2
  · split at h1
    · subst x
      simp at h1 h2
      exact h3 (h1.symm.trans h2)
    · cases h1
theorem onlyAB : onlyK LA LB 2 = [po 1] := rfl
theorem onlyBA : onlyK LB LA 2 = [po 3] := rfl
theorem bothAB {zs : List Int} (h : Both LA LB zs) : zs = [1, 2, 3] := by
  refine sorted_eq h.1 h.2.1 (by decide) (by decide) (fun x => ?_)
  rw [h.2.2, firstLA, firstLB]
  by_cases h1 : x = 1
  · subst h1; simp
  · by_cases h2 : x = 2
    · subst h2; simp
    · by_cases h3 : x = 3
      · subst h3; simp
      · simp [h1, h2, h3]
theorem Sm_LA : Sm LA := ⟨by decide, fun p hp => by simp [LA] at hp; rcases hp with rfl | rfl <;> exact ⟨by decide, by decide⟩⟩
theorem Sm_LB : Sm LB := ⟨by decide, fun p hp => by simp [LB] at hp; rcases hp with rfl | rfl <;> exact ⟨by decide, by decide⟩⟩

theorem C_two (w : World) (m n : Int) : Kd.C k29 (w.alloc (.cells #[.int .i64 m, .string ⟨#[]⟩, .slice none 0 0, .int .i64 n, .string ⟨#[]⟩, .slice none 0 0] 29)) (some ⟨w.heap.size, 0, none⟩) 2 [po m, po n] := by
  have h : k29.R 29 (w.alloc (.cells #[.int .i64 m, .string ⟨#[]⟩, .slice none 0 0, .int .i64 n, .string ⟨#[]⟩, .slice none 0 0] 29)) w.heap.size (fun _ => True) (.slice (some ⟨w.heap.size, 0, none⟩) 2 2) [po m, po n] := by
    refine ⟨fun _ _ => trivial, [.int .i64 m, .string ⟨#[]⟩, .slice none 0 0, .int .i64 n, .string ⟨#[]⟩, .slice none 0 0], World.ownsRow_lit (size := 3) w #[.int .i64 m, .string ⟨#[]⟩, .slice none 0 0, .int .i64 n, .string ⟨#[]⟩, .slice none 0 0] 2 (Nat.le_refl _) (by decide) rfl, rfl, fun j p hj => ?_⟩
    match j with
    | 0 => simp at hj; subst hj; exact k29_mkM _ _ _ (po m) (Kd.R_nil k46 46 _ _ _)
    | 1 => simp at hj; subst hj; exact k29_mkM _ _ _ (po n) (Kd.R_nil k46 46 _ _ _)
    | j + 2 => simp at hj
  exact (Kd.R_reads' h).2.2

theorem diffAB (A B : Option Addr) (w : World) (hA : Kd.C k29 w A 2 LA) (hB : Kd.C k29 w B 2 LB) :
    Calls Tryd.prog 8 #[.slice A 2 2, .slice B 2 2] w fun e w' => ∃ X cx Y cy U cu, e = .returned (.tuple #[.slice X 1 cx, .slice Y 1 cy, .slice U 0 cu]) ∧ Kd.C k29 w' X 1 [po 1] ∧ Kd.C k29 w' Y 1 [po 3] ∧ Below w.heap.size w w' := by
  refine (diff_calls A 2 LA B 2 LB w hA (by decide) hB (by decide) Sm_LA Sm_LB).mono ?_
  rintro e w' ⟨X, cx, Y, cy, U, cu, us, rfl, ⟨_, hx⟩, ⟨_, hy⟩, _, ⟨_, _, hm⟩, hb⟩
  have hu : us = [] := by
    rcases us with _ | ⟨x, us⟩
    · rfl
    · exact absurd ((hm x).1 List.mem_cons_self) (likeAB x)
  subst hu
  exact ⟨X, cx, Y, cy, U, cu, rfl, hx, hy, hb⟩
theorem mendAB (A B : Option Addr) (w : World) (hA : Kd.C k29 w A 2 LA) (hB : Kd.C k29 w B 2 LB) :
    Calls Tryd.prog 9 #[.slice A 2 2, .slice B 2 2] w fun e w' => ∃ X cx, e = .returned (.tuple #[.slice X 3 cx, .int .i64 0]) ∧ Kd.C k29 w' X 3 [po 1, po 2, po 3] ∧ Below w.heap.size w w' := by
  refine (mend_yes A 2 LA B 2 LB w hA (by decide) hB (by decide) Sm_LA Sm_LB (fun ⟨x, hx⟩ => likeAB x hx)).mono ?_
  rintro e w' ⟨X, cx, zs, rfl, _, hx, ⟨hz, _⟩, hb⟩
  have e1 := bothAB hz
  subst e1
  exact ⟨X, cx, rfl, hx, hb⟩

set_option maxHeartbeats 4000000 in
set_option maxRecDepth 100000 in
theorem awake_calls (w : World) : Calls Tryd.prog 4 #[] w fun e w' => e = .returned (.bool true) ∧ Below w.heap.size w w' := by
  have HA : Aside0 (∀ o, Kd.C k29 ((w.alloc (.cells #[.int .i64 1, .string ⟨#[]⟩, .slice none 0 0, .int .i64 2, .string ⟨#[]⟩, .slice none 0 0] 29)).alloc o) (some ⟨w.heap.size, 0, none⟩) 2 LA) := ⟨fun o => Kd.C_alloc (C_two w 1 2) o⟩
  have HB : Aside0 (∀ o, Kd.C k29 ((w.alloc o).alloc (.cells #[.int .i64 2, .string ⟨#[]⟩, .slice none 0 0, .int .i64 3, .string ⟨#[]⟩, .slice none 0 0] 29)) (some ⟨w.heap.size + 1, 0, none⟩) 2 LB) := ⟨fun o => by have := C_two (w.alloc o) 2 3; rwa [World.size_alloc] at this⟩
  go_enter Tryd.func4, Tryd.ntmps4
  go_wp2_with fail
  refine (diffAB _ _ _ (HA.out _) (HB.out _)).mono ?_
  rintro e w1 ⟨X, cx, Y, cy, U, cu, rfl, hX, hY, hB1⟩
  have HA1 := Aside0.mk (Kd.C_below (HA.out _) hB1)
  have HB1 := Aside0.mk (Kd.C_below (HB.out _) hB1)
  replace hB1 : Aside0 (Below w.heap.size w w1) := ⟨(((Below.refl _ _).alloc (Nat.le_refl _) _).alloc (by simp) _).trans (hB1.mono (by simp; omega))⟩
  obtain ⟨adx, _, _, ex, hx, _⟩ := at_T29 hX 0 (by decide) (by decide)
  obtain ⟨ady, _, _, ey, hy, _⟩ := at_T29 hY 0 (by decide) (by decide)
  replace hx := Aside0.mk hx
  replace hy := Aside0.mk hy
  cases ex
  cases ey
  clear hX hY
  go_wp2_with fail
  refine (mendAB _ _ _ HA1.out HB1.out).mono ?_
  rintro e w2 ⟨Z, cz, rfl, hZ, hB2⟩
  obtain ⟨adz, _, _, ez, hz, _⟩ := at_T29 hZ 2 (by decide) (by decide)
  replace hx := cellB hB2 hx.out
  replace hy := cellB hB2 hy.out
  replace hB2 : Aside0 (Below w.heap.size w w2) := ⟨hB1.out.trans (hB2.mono hB1.out.size)⟩
  cases ez
  clear hZ
  have e1 : (rd_T29 [po 1] 0).f0 = 1 := rfl
  have e2 : (rd_T29 [po 3] 0).f0 = 3 := rfl
  have e3 : (rd_T29 [po 1, po 2, po 3] 2).f0 = 3 := rfl
  rw [e1] at hx
  rw [e2] at hy
  rw [e3] at hz
  simp at hx hy hz
  rw [show adx.add 0 = adx by simp [Addr.add]] at hx
  rw [show ady.add 0 = ady by simp [Addr.add]] at hy
  replace hz : w2.cell? ⟨adz.block, adz.off + 6, none⟩ = some (.int .i64 3) := by simpa [Addr.add] using hz
  clear e1 e2 e3
  go_wp2_with fail
  go_ret
  exact ⟨rfl, hB2.out⟩
end Go.Proofs.YtaogmbiepbhmoaaDoor.A

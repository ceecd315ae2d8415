/- match.only: the posts that count in a, and of whose number b has none, in memory of their own. -/
import Derived.Test.YtaogmbiepbhmoaaDoorClone
namespace Go.Proofs.YtaogmbiepbhmoaaDoor.A
open Go.RowKit Go.Maps ScKit Go.Proofs.YtaogmbiepbhmoaaDoorW.PrintWords Go.Proofs.YtaogmbiepbhmoaaDoorW.PrintLast Go.Proofs.YtaogmbiepbhmoaaDoorW.PrintMore

/-- What only gathers of the first k posts of a. -/
def onlyK (a b : List S29) : Nat → List S29
  | 0 => []
  | k + 1 => if firstOf b (rd_T29 a k).f0 = none ∧ firstOf (a.take k) (rd_T29 a k).f0 = none then onlyK a b k ++ [rd_T29 a k] else onlyK a b k
theorem onlyK_yes {a b : List S29} {k : Nat} (h1 : firstOf b (rd_T29 a k).f0 = none) (h2 : firstOf (a.take k) (rd_T29 a k).f0 = none) : onlyK a b (k + 1) = onlyK a b k ++ [rd_T29 a k] := by
  simp only [onlyK]; rw [if_pos ⟨h1, h2⟩]
theorem onlyK_no1 {a b : List S29} {k : Nat} {q : S29} (h1 : firstOf b (rd_T29 a k).f0 = some q) : onlyK a b (k + 1) = onlyK a b k := by
  simp only [onlyK]; rw [if_neg (by rw [h1]; simp)]
theorem onlyK_no2 {a b : List S29} {k : Nat} {q : S29} (h2 : firstOf (a.take k) (rd_T29 a k).f0 = some q) : onlyK a b (k + 1) = onlyK a b k := by
  simp only [onlyK]; rw [if_neg (by rw [h2]; simp)]
theorem onlyK_len (a b : List S29) (k : Nat) : (onlyK a b k).length ≤ k := by
  induction k with
  | zero => simp [onlyK]
  | succ k ih =>
    simp only [onlyK]
    split
    · rw [List.length_append]; simp; exact ih
    · omega

/-- The numbers seen. -/
def Seen (l : List S29) (f : Lit → Option Value) : Prop := ∀ x, f (.int .i64 x) = if (firstOf l x).isSome then some (.bool true) else none
theorem Seen.nil : Seen [] (fun _ => none) := fun _ => rfl
theorem Seen.add {l : List S29} {k : Nat} {f : Lit → Option Value} (h : Seen (l.take k) f) (hk : k < l.length) : Seen (l.take (k + 1)) (upd f (.int .i64 (rd_T29 l k).f0) (.bool true)) := by
  intro x
  unfold upd
  rw [firstOf_snoc l k hk]
  by_cases e : x = (rd_T29 l k).f0
  · subst e
    rw [if_pos rfl, if_pos rfl]
    cases firstOf (l.take k) (rd_T29 l k).f0 <;> simp
  · have e2 : (if (rd_T29 l k).f0 = x then some (rd_T29 l k) else none) = none := if_neg (fun h => e h.symm)
    rw [if_neg (fun h => e (by injection h)), e2, h x, Option.or_none]

def Sm (l : List S29) : Prop := l.length ≤ 1000 ∧ ∀ p ∈ l, (Lit.int .i64 p.f0).wf = true ∧ p.f2.length ≤ 1000
theorem Sm.wf {l : List S29} (h : Sm l) : Wf l := fun p hp => (h.2 p hp).1
theorem Sm.at_ {l : List S29} (h : Sm l) {k : Nat} (hk : k < l.length) : (Lit.int .i64 (rd_T29 l k).f0).wf = true ∧ (rd_T29 l k).f2.length ≤ 1000 := by
  rw [show rd_T29 l k = l[k] by simp [rd_T29, hk]]; exact h.2 _ (List.getElem_mem hk)

theorem zero4 (w : World) : (zeroValue 4).run Tryd.prog w = .ok (.bool false) w := by kernel_rfl

theorem _root_.Go.Proofs.YtaogmbiepbhmoaaDoorW.PrintWords.Kd.N.alloc2 {α : Type} {d : Kd α} {e base : Nat} {ok : Nat → Prop} {w : World} {v : Value} {xs : List α} (h : Kd.N d e w base ok v xs) (o o' : Obj) : Kd.N d e ((w.alloc o).alloc o') base ok v xs := Kd.N_alloc (Kd.N_alloc h o) o'

set_option maxHeartbeats 2000000 in
set_option maxRecDepth 100000 in
theorem only_calls (A0 : Option Addr) (c0 : Nat) (l0 : List S29) (A1 : Option Addr) (c1 : Nat) (l1 : List S29) (w : World) (hr0 : Kd.C k29 w A0 l0.length l0) (hr1 : Kd.C k29 w A1 l1.length l1) (hc1 : l1.length ≤ c1) (hs0 : Sm l0) (hs1 : Sm l1) :
    Calls Tryd.prog 18 #[.slice A0 l0.length c0, .slice A1 l1.length c1] w fun e w' => ∃ A c, e = .returned (.slice A (onlyK l0 l1 l0.length).length c) ∧ (onlyK l0 l1 l0.length).length ≤ c ∧ Kd.C k29 w' A (onlyK l0 l1 l0.length).length (onlyK l0 l1 l0.length) ∧ Below w.heap.size w w' := by
  have hmax : l0.length ≤ 1000 := hs0.1
  have HS := Aside0.mk hs0
  have HR := Aside0.mk hr0
  have HR1 := Aside0.mk hr1
  have hwf := Aside0.mk hs1.wf
  clear hr0 hr1 hs0 hs1
  have hmm := @run_makeMap Tryd.prog
  go_enter Tryd.func18, Tryd.ntmps18
  go_wp2_with fail
  refine (counted_calls A1 c1 l1 _ (Kd.C_below HR1.out ((Below.refl _ _).alloc (Nat.le_refl _) _)) hc1 hwf.out).mono ?_
  rintro e w1 ⟨b, fo, rfl, hb, hM, hH, hB⟩
  have HM := Aside0.mk hM
  have HH := Aside0.mk hH
  have HB1 := Aside0.mk hB
  simp only [World.size_alloc] at hb
  have HN : Aside0 (MapIs w1 Tryd.prog 3 w.heap.size 0 (fun _ => none)) := ⟨(MapIs.made w Tryd.prog 3).below hB (by simp)⟩
  have HB : Aside0 (Below w.heap.size w w1) := ⟨((Below.refl _ _).alloc (Nat.le_refl _) _).trans (hB.mono (by simp))⟩
  clear hM hH hB
  go_wp2
  go_loopw [17, 5] (fun i v wr => ∃ k : Nat, k ≤ l0.length ∧ i = .int .i64 k ∧ ∃ f, Aside0 (MapIs wr Tryd.prog 3 w.heap.size k f) ∧ Aside0 (Seen (l0.take k) f) ∧ Aside0 (MapIs wr Tryd.prog 3 b l1.length fo) ∧ Aside0 (Kd.N k29 29 wr (w.heap.size + 1) (fun q => q ≠ w.heap.size ∧ q ≠ b) v (onlyK l0 l1 k)) ∧ Aside0 (Below w.heap.size w wr))
    (fun i _ _ => l0.length - (intOf i).toNat)
  case atStart => exact ⟨0, Nat.zero_le _, rfl, _, HN, ⟨Seen.nil⟩, HM, ⟨Kd.N_nil _ _ _ _ _⟩, HB⟩
  case round =>
    obtain ⟨k, hk, rfl, f, HN, HSe, HM, HO, HB⟩ := hrel
    by_cases hlt : k < l0.length
    · obtain ⟨ad, A2, c2, e, h0, h1, h2, h3, h4⟩ := at_T29 HR.out (k : Int) (by omega) (by omega)
      have h4 := Kd.C_below h4 HB.out
      replace h0 := cellB HB.out h0
      replace h1 := cellB HB.out h1
      replace h2 := cellB HB.out h2
      simp only [Int.toNat_natCast] at h0 h1 h2
      obtain ⟨hw1, hw2⟩ := HS.out.at_ hlt
      have hkey := Aside0.mk (keyOf_int_mk (P := Tryd.prog) (k := 3) Tryd.underlying3 hw1)
      have h3 := Aside0.mk h3
      have h4 := Aside0.mk h4
      have hw2 := Aside0.mk hw2
      clear hw1
      cases e
      rcases hq : firstOf l1 (rd_T29 l0 k).f0 with _ | q
      · have hn := Aside0.mk (HH.out.none_ hq)
        have hse := HSe.out (rd_T29 l0 k).f0
        rcases hq2 : firstOf (l0.take k) (rd_T29 l0 k).f0 with _ | q2
        · rw [hq2] at hse
          have hse : Aside0 ((f (.int .i64 (rd_T29 l0 k).f0)).getD (.bool false) = .bool false) := ⟨by rw [hse]; rfl⟩
          have hq := Aside0.mk hq
          have hq2 := Aside0.mk hq2
          go_wp2_with (first
            | (at_lookup; refine wp_lookup_ok_none _ rfl _ _ 50 rfl 3 29 law3 Tryd.underlying50 zero29 b l1.length fo rfl ?hm _ _ rfl hkey.out hn.out ?_)
            | (at_lookup; refine wp_lookup_some _ ?hw _ _ 67 rfl 3 4 law3 Tryd.underlying67 zero4 w.heap.size k f rfl ?hm2 _ _ rfl hkey.out _ hse.out ?_)
            | fail)
          case hm => exact HM.out.alloc _
          case hm2 => exact (HN.out.alloc _).alloc _
          refine (own_calls (rd_T29 l0 k) A2 c2 _ ?hr h3.out hw2.out).mono ?_
          case hr => exact Kd.C_below h4.out (((Below.refl _ _).alloc (Nat.le_refl _) _).alloc (by simp) _)
          rintro e w2 ⟨A3, c3, rfl, q1, q2, q3⟩
          unfold postV
          have q1 := Aside0.mk q1
          have q2 := Aside0.mk q2
          have q3 := Aside0.mk q3
          have s2 : wr.heap.size + 1 < w2.heap.size := by have := q3.out.size; simp at this; omega
          go_wp2_with (at_builtin; refine Kd.N_append k29 (w0 := w2) (w.heap.size + 1) rfl _ _ 22 29 _ 48 rfl Tryd.underlying22 info29 rfl (by decide) (by decide) u5 (onlyK l0 l1 k) (rd_T29 l0 k) _ (fun q => q ≠ w.heap.size ∧ q ≠ b) (fun q => wr.heap.size + 2 ≤ q) rfl rfl ?hp ?hokp ?hf ?ho (Below.refl _ _) ?hb ?hl ?_)
          case hp => exact k29_mkF _ _ _ q1.out (Kd.F_mono q2.out (fun _ h => by simpa using h))
          case hokp => exact fun q hq => ⟨⟨by have := HN.out.lt; omega, by have := HM.out.lt; omega⟩, fun e => by have := Kd.N_lt HO.out q e.symm; omega⟩
          case hf => exact fun q hq => ⟨by have := HN.out.lt; omega, by have := HM.out.lt; omega⟩
          case ho => exact Kd.N_below ((HO.out.alloc2) _ _) q3.out
          case hb => have := HN.out.lt; omega
          case hl => have := onlyK_len l0 l1 k; omega
          intro v1 w3 hN hB3 hg hat
          have hg := Aside0.mk hg
          have hN := Aside0.mk hN
          have B2 : Aside0 (Below w.heap.size w w2) := ⟨((HB.out.alloc HB.out.size _).alloc (by simp; have := HB.out.size; omega) _).trans (q3.out.mono (by simp; have := HB.out.size; omega))⟩
          have hne1 : some wr.heap.size ≠ u5.ownBlock := fun e => by have := Kd.N_lt HO.out _ e.symm; omega
          obtain ⟨a0, a1, a2, f0, f1, f2⟩ := box3 (blk_grown (blk_below (blk_alloc (blk_new wr _) _) q3.out) hg.out hne1)
          have HN3 : Aside0 (MapIs w3 Tryd.prog 3 w.heap.size k f) := ⟨(((HN.out.alloc _).alloc _).below q3.out (by simp; have := HN.out.lt; omega)).kept hg.out (fun e => (HO.out.1 _ e.symm).1 rfl)⟩
          have HM3 : Aside0 (MapIs w3 Tryd.prog 3 b l1.length fo) := ⟨(((HM.out.alloc _).alloc _).below q3.out (by simp; have := HM.out.lt; omega)).kept hg.out (fun e => (HO.out.1 _ e.symm).2 rfl)⟩
          have B3 : Aside0 (Below w.heap.size w w3) := ⟨B2.out.grown hg.out B2.out.size (fun j hj => by have := Kd.N_base HO.out j hj; omega)⟩
          clear hB3 hat hne1
          go_wp2_with (at_mapUpdate; refine wp_update _ rfl _ _ _ 67 rfl 3 4 law3 Tryd.underlying67 w.heap.size k f rfl ?hm3 ?hn3 _ _ _ rfl rfl hkey.out ?_)
          case hm3 => exact HN3.out
          case hn3 => unfold maxLen; omega
          intro w4 hM4 hg4
          have R1 : Aside0 (MapIs w4 Tryd.prog 3 w.heap.size (k + 1) (upd f (.int .i64 (rd_T29 l0 k).f0) (.bool true))) := ⟨hM4⟩
          have R2 := Aside0.mk (HSe.out.add hlt)
          have R3 : Aside0 (MapIs w4 Tryd.prog 3 b l1.length fo) := ⟨HM3.out.kept hg4 (fun e => by injection e with e; omega)⟩
          have R4 : Aside0 (Kd.N k29 29 w4 (w.heap.size + 1) (fun q => q ≠ w.heap.size ∧ q ≠ b) v1 (onlyK l0 l1 (k + 1))) := ⟨by rw [onlyK_yes hq.out hq2.out]; exact Kd.N_grown hN.out hg4 (fun q h e => h.1 (by injection e))⟩
          have R5 : Aside0 (Below w.heap.size w w4) := ⟨B3.out.grown hg4 B3.out.size (fun j hj => by injection hj; omega)⟩
          clear hM4 hg4
          go_wp2
          go_roundw
          case rel => exact ⟨k + 1, by omega, by go_num, _, R1, R2, R3, R4, R5⟩
          case measure => simp [intOf]; omega
        · rw [hq2] at hse
          have hse : Aside0 ((f (.int .i64 (rd_T29 l0 k).f0)).getD (.bool false) = .bool true) := ⟨by rw [hse]; rfl⟩
          have hq := Aside0.mk hq
          have hq2 := Aside0.mk hq2
          go_wp2_with (first
            | (at_lookup; refine wp_lookup_ok_none _ rfl _ _ 50 rfl 3 29 law3 Tryd.underlying50 zero29 b l1.length fo rfl ?hm _ _ rfl hkey.out hn.out ?_)
            | (at_lookup; refine wp_lookup_some _ ?hw _ _ 67 rfl 3 4 law3 Tryd.underlying67 zero4 w.heap.size k f rfl ?hm2 _ _ rfl hkey.out _ hse.out ?_)
            | (at_mapUpdate; refine wp_update _ rfl _ _ _ 67 rfl 3 4 law3 Tryd.underlying67 w.heap.size k f rfl ?hm3 ?hn3 _ _ _ rfl rfl hkey.out ?_)
            | fail)
          case hm => exact HM.out.alloc _
          case hm2 => exact (HN.out.alloc _).alloc _
          case hm3 => exact (HN.out.alloc _).alloc _
          case hn3 => unfold maxLen; omega
          intro w4 hM4 hg4
          have R1 : Aside0 (MapIs w4 Tryd.prog 3 w.heap.size (k + 1) (upd f (.int .i64 (rd_T29 l0 k).f0) (.bool true))) := ⟨hM4⟩
          have R2 := Aside0.mk (HSe.out.add hlt)
          have R3 : Aside0 (MapIs w4 Tryd.prog 3 b l1.length fo) := ⟨((HM.out.alloc _).alloc _).kept hg4 (fun e => by injection e with e; omega)⟩
          have R4 : Aside0 (Kd.N k29 29 w4 (w.heap.size + 1) (fun q => q ≠ w.heap.size ∧ q ≠ b) u5 (onlyK l0 l1 (k + 1))) := ⟨by rw [onlyK_no2 hq2.out]; exact Kd.N_grown (HO.out.alloc2 _ _) hg4 (fun q h e => h.1 (by injection e))⟩
          have R5 : Aside0 (Below w.heap.size w w4) := ⟨((HB.out.alloc HB.out.size _).alloc (by simp; have := HB.out.size; omega) _).grown hg4 (by simp; have := HB.out.size; omega) (fun j hj => by injection hj; omega)⟩
          clear hM4 hg4
          go_wp2
          go_roundw
          case rel => exact ⟨k + 1, by omega, by go_num, _, R1, R2, R3, R4, R5⟩
          case measure => simp [intOf]; omega
      · obtain ⟨A9, c9, hv, _, _⟩ := HH.out.some_ hq
        unfold postV at hv
        have hv := Aside0.mk hv
        have hq := Aside0.mk hq
        go_wp2_with (first
            | (at_lookup; refine wp_lookup_ok_some _ rfl _ _ 50 rfl 3 29 law3 Tryd.underlying50 zero29 b l1.length fo rfl ?hm _ _ rfl hkey.out _ hv.out ?_)
            | (at_mapUpdate; refine wp_update _ rfl _ _ _ 67 rfl 3 4 law3 Tryd.underlying67 w.heap.size k f rfl ?hm3 ?hn3 _ _ _ rfl rfl hkey.out ?_)
            | fail)
        all_goals first
          | exact HM.out.alloc _
          | skip
        case hm3 => exact (HN.out.alloc _).alloc _
        case hn3 => unfold maxLen; omega
        intro w4 hM4 hg4
        have R1 : Aside0 (MapIs w4 Tryd.prog 3 w.heap.size (k + 1) (upd f (.int .i64 (rd_T29 l0 k).f0) (.bool true))) := ⟨hM4⟩
        have R2 := Aside0.mk (HSe.out.add hlt)
        have R3 : Aside0 (MapIs w4 Tryd.prog 3 b l1.length fo) := ⟨((HM.out.alloc _).alloc _).kept hg4 (fun e => by injection e with e; omega)⟩
        have R4 : Aside0 (Kd.N k29 29 w4 (w.heap.size + 1) (fun q => q ≠ w.heap.size ∧ q ≠ b) u5 (onlyK l0 l1 (k + 1))) := ⟨by rw [onlyK_no1 hq.out]; exact Kd.N_grown (HO.out.alloc2 _ _) hg4 (fun q h e => h.1 (by injection e))⟩
        have R5 : Aside0 (Below w.heap.size w w4) := ⟨((HB.out.alloc HB.out.size _).alloc (by simp; have := HB.out.size; omega) _).grown hg4 (by simp; have := HB.out.size; omega) (fun j hj => by injection hj; omega)⟩
        clear hM4 hg4
        go_wp2
        go_roundw
        case rel => exact ⟨k + 1, by omega, by go_num, _, R1, R2, R3, R4, R5⟩
        case measure => simp [intOf]; omega
    · obtain rfl : k = l0.length := by omega
      obtain ⟨A, c, rfl, q1, q2⟩ := Kd.N_reads HO.out
      have q1 := Aside0.mk q1
      have q2 := Aside0.mk q2
      go_wp2
      go_ret
      exact ⟨A, c, rfl, q1.out, q2.out, HB.out⟩
end Go.Proofs.YtaogmbiepbhmoaaDoor.A

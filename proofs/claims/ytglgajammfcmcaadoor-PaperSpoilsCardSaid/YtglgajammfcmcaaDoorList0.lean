/- pack.List of no boxes, and what Packing asks of a deal without boxes. -/
import Derived.Test.YtglgajammfcmcaaDoorPapers
import Derived.Test.YtglgajammfcmcaaDoorAx2
import Derived.Maps.Own
import Derived.Maps.OwnOps
import Derived.Sort.KeysCollected
namespace Go.Proofs.YtglgajammfcmcaaDoor.A
open Go.RowKit Go.Maps Go.Sort Go.Shelf Go.Proofs.YtglgajammfcmcaaDoorW.PrintWords Go.Proofs.YtglgajammfcmcaaDoorW.PrintLast Go.Proofs.YtglgajammfcmcaaDoorW.PrintMore
set_option linter.unusedVariables false
set_option linter.unusedSimpArgs false

theorem _root_.Go.Proofs.Tryd.sorts59 (m : Nat) : AnyZ.SortsIn Tryd.prog Tryd.sorted59_ren Fence.wide m :=
  ⟨fun blk off cap ss W hH hblk hsz => callsIn_wide.2 (AnyM.slices_Sort_string Tryd.sort71 blk off cap ss W hH hblk hsz),
   fun p cap W => callsIn_wide.2 (AnyM.slices_Sort_string_none Tryd.sort71 p cap W)⟩

/-- **maps.Keys[map[string]int,string,int], at whatever map, the nil one too:** a function value over ONE NEW BLOCK, which holds the map. -/
theorem _root_.Go.Proofs.Tryd.maps_Keys_60 (mb : Option Nat) (W : World) : CallsIn Fence.wide 5 Tryd.prog 60 #[.map mb] W fun e w' => e = .returned (.func (.func 72) #[] #[.pointer (some ⟨W.heap.size, 0, none⟩)]) ∧ w' = W.alloc (.cells #[.map mb] 104) :=
  AnyZ.keys_in Tryd.keys60 Fence.wide 5 trivial rfl mb W

set_option maxHeartbeats 1000000 in
/-- **slices.Sorted[string] AT WHAT maps.Keys[map[string]int,string,int] HANDED BACK FOR A MAP THAT IS NOT nil** ('w': the world AHEAD of maps.Keys' call): A NEW SLICE THAT HOLDS THE MAP's KEYS, SORTED; nil just where it has none; nothing that lay before has turned. -/
theorem _root_.Go.Proofs.Tryd.slices_Sorted_keys_59_60 {H : Type} (b nn : Nat) (D0 : DataW H) (R : Value → Option (DataW H × List MemPlace)) (w : World) (hown : w.ownsMap Tryd.prog 9 R b nn D0) (hmax : Maps.size D0 ≤ maxLen) (hbytes : Maps.size D0 * 16 ≤ 140737488355328) :
    CallsIn Fence.wide 5 Tryd.prog 59 #[.func (.func 72) #[] #[.pointer (some ⟨w.heap.size, 0, none⟩)]] (w.alloc (.cells #[.map (some b)] 104)) fun e w' => ∃ (v : Value) (ss : List (List UInt8)), e = .returned v ∧ ss.Perm (strKeys D0) ∧
      w'.ownsRow (w.alloc (.cells #[.map (some b)] 104)).heap.size 9 1 v ss.length ((ss.mergeSort (fun x y => decide (x ≤ y))).map encStr) ∧ (v = .slice none 0 0 ↔ ss = []) ∧ Below (w.alloc (.cells #[.map (some b)] 104)).heap.size (w.alloc (.cells #[.map (some b)] 104)) w' := by
  have hbl := hown.lt
  have hseq : SeqGives Fence.wide 2 Tryd.prog 72 #[.pointer (some ⟨w.heap.size, 0, none⟩)] encStr (fun ss => ss.Perm (strKeys D0)) (Maps.size D0) (w.alloc (.cells #[.map (some b)] 104)) :=
    AnyZ.keys_gives (ρ := Tryd.keys60_ren) { Tryd.keys60 with } Fence.wide _ trivial rfl (by omega) w.heap.size b nn D0 _ (by simp) (by simp) (by
      obtain ⟨es, clock, hb, Ft, hs, hD⟩ := hown
      exact ⟨es, clock, (Below.heap_alloc _ _ b hbl).trans hb, Ft, hs, hD⟩)
  exact AnyZ.sorted_in Tryd.sorted59 Fence.wide 5 trivial trivial trivial trivial rfl (by omega) (Tryd.sorts59 _) (enters_of Tryd.func71 (by kernel_rfl) rfl) 72 #[.pointer (some ⟨w.heap.size, 0, none⟩)] trivial (enters_of Tryd.func72 (by kernel_rfl) rfl) _ _ hmax hbytes _ hseq

set_option maxHeartbeats 1000000 in
/-- **.. AND FOR THE nil MAP: nil.** -/
theorem _root_.Go.Proofs.Tryd.slices_Sorted_keys_nil_59_60 (w : World) :
    CallsIn Fence.wide 5 Tryd.prog 59 #[.func (.func 72) #[] #[.pointer (some ⟨w.heap.size, 0, none⟩)]] (w.alloc (.cells #[.map none] 104)) fun e w' => ∃ (v : Value) (ss : List (List UInt8)), e = .returned v ∧ ss = [] ∧
      w'.ownsRow (w.alloc (.cells #[.map none] 104)).heap.size 9 1 v ss.length ((ss.mergeSort (fun x y => decide (x ≤ y))).map encStr) ∧ (v = .slice none 0 0 ↔ ss = []) ∧ Below (w.alloc (.cells #[.map none] 104)).heap.size (w.alloc (.cells #[.map none] 104)) w' := by
  have hseq : SeqGives Fence.wide 2 Tryd.prog 72 #[.pointer (some ⟨w.heap.size, 0, none⟩)] encStr (fun ss : List (List UInt8) => ss = []) 0 (w.alloc (.cells #[.map none] 104)) :=
    AnyZ.keys_gives_nil (ρ := Tryd.keys60_ren) { Tryd.keys60 with } Fence.wide _ trivial rfl w.heap.size _ (by simp) (by simp)
  exact AnyZ.sorted_in Tryd.sorted59 Fence.wide 5 trivial trivial trivial trivial rfl (by omega) (Tryd.sorts59 _) (enters_of Tryd.func71 (by kernel_rfl) rfl) 72 #[.pointer (some ⟨w.heap.size, 0, none⟩)] trivial (enters_of Tryd.func72 (by kernel_rfl) rfl) _ 0 (Nat.zero_le _) (by omega) _ hseq



set_option maxHeartbeats 400000 in
set_option maxRecDepth 100000 in
theorem counts0_calls (c : Nat) (w : World) : Calls Tryd.prog 58 #[.slice none 0 c] w fun e w' => e = .returned (.map (some w.heap.size)) ∧ w' = w.alloc (.map #[] 0) := by
  have hmm := @run_makeMap Tryd.prog
  go_enter Tryd.func58, Tryd.ntmps58
  go_wp2_with fail
  go_loopw [9] (fun i wr => i = .int .i64 0 ∧ Aside0 (wr = w.alloc (.map #[] 0))) (fun _ _ => 0)
  case atStart => exact ⟨rfl, ⟨rfl⟩⟩
  case round =>
    obtain ⟨rfl, HW⟩ := hrel
    go_wp2_with fail
    go_ret
    exact ⟨rfl, HW.out⟩
set_option maxHeartbeats 400000 in
set_option maxRecDepth 100000 in
theorem sorted0_calls (w : World) : Calls Tryd.prog 59 #[.func (.func 72) #[] #[.pointer (some ⟨w.heap.size + 1, 0, none⟩)]] ((w.alloc (.map #[] 0)).alloc (.cells #[.map (some w.heap.size)] 104)) fun e w' => e = .returned (.slice none 0 0) ∧ Below w.heap.size w w' := by
  have h := (callsIn_wide (n := 5)).1 (Tryd.slices_Sorted_keys_59_60 (H := Unit) w.heap.size 0 (.map []) (fun _ => none) (w.alloc (.map #[] 0)) (World.ownsMap_made _ _ _ _) (by simp [Maps.size]) (by simp [Maps.size]))
  rw [World.size_alloc] at h
  refine h.mono ?_
  rintro e w' ⟨v, ss, rfl, hp, _, hnil, hb⟩
  have hs : ss = [] := by
    have : ss.Perm [] := hp
    exact this.eq_nil
  rw [hnil.2 hs]
  exact ⟨rfl, (((Below.refl _ w).alloc (Nat.le_refl _) _).alloc (by simp) _).trans (hb.mono (by simp; omega))⟩
theorem keys0_calls (b : Nat) (w : World) : Calls Tryd.prog 60 #[.map (some b)] w fun e w' => e = .returned (.func (.func 72) #[] #[.pointer (some ⟨w.heap.size, 0, none⟩)]) ∧ w' = w.alloc (.cells #[.map (some b)] 104) := (callsIn_wide (n := 5)).1 (Tryd.maps_Keys_60 (some b) w)
set_option maxHeartbeats 400000 in
set_option maxRecDepth 100000 in
theorem goods0_calls (c : Nat) (w : World) : Calls Tryd.prog 45 #[.slice none 0 c] w fun e w' => e = .returned (.slice none 0 0) ∧ Below w.heap.size w w' := by
  have H1 := Aside0.mk (counts0_calls c w)
  have H2 := Aside0.mk (keys0_calls w.heap.size (w.alloc (.map #[] 0)))
  have H3 := Aside0.mk (sorted0_calls w)
  go_enter Tryd.func45, Tryd.ntmps45
  go_wp2_with fail
  refine H1.out.mono ?_
  rintro e w1 ⟨rfl, rfl⟩
  clear H1
  go_wp2_with fail
  refine H2.out.mono ?_
  rintro e w1 ⟨rfl, rfl⟩
  clear H2
  go_wp2_with fail
  refine H3.out.mono ?_
  rintro e w1 ⟨rfl, hB⟩
  replace hB := Aside0.mk hB
  clear H3
  go_wp2_with fail
  go_loopw [4, 13] (fun o i wr => o = .slice none 0 0 ∧ i = .int .i64 0 ∧ Aside0 (Below w.heap.size w wr)) (fun _ _ _ => 0)
  case atStart => exact ⟨rfl, rfl, hB⟩
  case round =>
    obtain ⟨rfl, rfl, HW⟩ := hrel
    go_wp2_with fail
    go_ret
    exact ⟨rfl, HW.out⟩
set_option maxHeartbeats 400000 in
set_option maxRecDepth 100000 in
theorem content0_calls (c : Nat) (w : World) : Calls Tryd.prog 38 #[.slice none 0 c] w fun e w' => e = .returned (.slice none 0 0) ∧ Below w.heap.size w w' := by
  go_enter Tryd.func38, Tryd.ntmps38
  go_wp2_with fail
  go_loopw [3, 8] (fun o i wr => o = .slice none 0 0 ∧ i = .int .i64 0 ∧ Aside0 (Below w.heap.size w wr)) (fun _ _ _ => 0)
  case atStart => exact ⟨rfl, rfl, ⟨Below.refl _ _⟩⟩
  case round =>
    obtain ⟨rfl, rfl, HW⟩ := hrel
    have H1 := Aside0.mk (goods0_calls 0 wr)
    go_wp2_with fail
    refine H1.out.mono ?_
    rintro e w1 ⟨rfl, hB⟩
    replace hB := Aside0.mk (HW.out.trans (hB.mono HW.out.size))
    clear H1
    go_wp2_with fail
    go_ret
    exact ⟨rfl, hB.out⟩
set_option maxHeartbeats 400000 in
set_option maxRecDepth 100000 in
theorem line0_calls (w : World) : Calls Tryd.prog 37 #[.string (⟨#[97, 108, 108]⟩ : ByteArray), .slice none 0 0] w fun e w' => e = .returned (.string (⟨#[97, 108, 108, 10]⟩ : ByteArray)) ∧ Below w.heap.size w w' := by
  go_enter Tryd.func37, Tryd.ntmps37
  go_wp2_with fail
  go_loopw [0, 9] (fun s i wr => s = .string (⟨#[97, 108, 108]⟩ : ByteArray) ∧ i = .int .i64 0 ∧ Aside0 (Below w.heap.size w wr)) (fun _ _ _ => 0)
  case atStart => exact ⟨rfl, rfl, ⟨Below.refl _ _⟩⟩
  case round =>
    obtain ⟨rfl, rfl, HW⟩ := hrel
    go_wp2_with fail
    go_ret
    exact ⟨rfl, HW.out⟩
set_option maxHeartbeats 400000 in
set_option maxRecDepth 100000 in
theorem list0_calls (c : Nat) (w : World) : Calls Tryd.prog 26 #[.slice none 0 c] w fun e w' => e = .returned (.string (⟨#[97, 108, 108, 10]⟩ : ByteArray)) ∧ Below w.heap.size w w' := by
  go_enter Tryd.func26, Tryd.ntmps26
  go_wp2_with fail
  go_loopw [3, 9] (fun s i wr => s = .string (⟨#[]⟩ : ByteArray) ∧ i = .int .i64 0 ∧ Aside0 (Below w.heap.size w wr)) (fun _ _ _ => 0)
  case atStart => exact ⟨rfl, rfl, ⟨Below.refl _ _⟩⟩
  case round =>
    obtain ⟨rfl, rfl, HW⟩ := hrel
    have H1 := Aside0.mk (content0_calls c wr)
    go_wp2_with fail
    refine H1.out.mono ?_
    rintro e w1 ⟨rfl, hB⟩
    replace hB := Aside0.mk (HW.out.trans (hB.mono HW.out.size))
    have H2 := Aside0.mk (line0_calls w1)
    clear H1
    go_wp2_with fail
    refine H2.out.mono ?_
    rintro e w2 ⟨rfl, hB2⟩
    replace hB2 := Aside0.mk (hB.out.trans (hB2.mono hB.out.size))
    clear H2
    go_wp2_with fail
    go_ret
    exact ⟨rfl, hB2.out⟩
set_option maxHeartbeats 400000 in
set_option maxRecDepth 100000 in
theorem join0_calls (A : Option Addr) (c : Nat) (s : ByteArray) (w : World) : Calls Tryd.prog 24 #[.slice A 0 c, .string s] w fun e w' => e = .returned (.string (⟨#[]⟩ : ByteArray)) ∧ Below w.heap.size w w' := by
  go_enter Tryd.func24, Tryd.ntmps24
  go_wp2_with fail
  go_ret
  exact ⟨rfl, Below.refl _ _⟩
theorem marks0_calls (c : Nat) (w : World) : Calls Tryd.prog 25 #[.slice none 0 c] w fun e w' => ∃ v, e = .returned v ∧ Below w.heap.size w w' ∧ Calls Tryd.prog 24 #[v, .string (⟨#[44]⟩ : ByteArray)] w' fun e w'' => e = .returned (.string (⟨#[]⟩ : ByteArray)) ∧ Below w'.heap.size w' w'' := by
  refine (paper_marks.calls 1 none c [] [] w ⟨rfl, by simp, fun h => absurd h (by simp)⟩ (by simp) rfl).mono ?_
  rintro e w' ⟨v, rfl, hR, hB⟩
  obtain ⟨A, c', rfl⟩ := Kd.R_slice hR
  exact ⟨_, rfl, hB, join0_calls A c' _ w'⟩
end Go.Proofs.YtglgajammfcmcaaDoor.A

/- slices.Sort of ints, slices.Sorted(maps.Keys(m)): the shelf's contracts in this session's words. -/
import Derived.Test.YtaogmbiepbhmoaaDoorLays
import Derived.Test.YtaogmbiepbhmoaaDoorKit
import Derived.Test.YtaogmbiepbhmoaaDoorAx0
namespace Go.Proofs.YtaogmbiepbhmoaaDoor.A
open Go.RowKit Go.Maps ScKit Go.Sort Go.Shelf Go.Proofs.YtaogmbiepbhmoaaDoorW.PrintWords Go.Proofs.YtaogmbiepbhmoaaDoorW.PrintLast Go.Proofs.YtaogmbiepbhmoaaDoorW.PrintMore

theorem info3 : (Tryd.prog.info? 3).map (fun i => (i.zero, i.size, i.bytes)) = some (some (.int .i64 0), 1, 8) := by kernel_rfl
/-- The sorted list. -/
def srt (xs : List Int) : List Int := xs.mergeSort fun x y => decide (x ≤ y)
theorem srt_perm (xs : List Int) : (srt xs).Perm xs := List.mergeSort_perm _ _
theorem srt_sorted (xs : List Int) : (srt xs).Pairwise (· ≤ ·) := by
  have tr : ∀ a b c : Int, (decide (a ≤ b)) = true → (decide (b ≤ c)) = true → (decide (a ≤ c)) = true := fun a b c h1 h2 => by simp only [decide_eq_true_eq] at *; exact Int.le_trans h1 h2
  have tt : ∀ a b : Int, (decide (a ≤ b) || decide (b ≤ a)) = true := fun a b => by simp only [Bool.or_eq_true, decide_eq_true_eq]; exact Int.le_total a b
  exact (List.pairwise_mergeSort tr tt xs).imp (fun h => by simpa using h)
theorem srt_length (xs : List Int) : (srt xs).length = xs.length := (srt_perm xs).length_eq
theorem srt_nodup {xs : List Int} (h : xs.Nodup) : (srt xs).Nodup := (srt_perm xs).nodup_iff.2 h
theorem mem_srt {xs : List Int} {x : Int} : x ∈ srt xs ↔ x ∈ xs := (srt_perm xs).mem_iff

theorem sort_calls (v : Value) (xs : List Int) (base : Nat) (ok : Nat → Prop) (w : World) (HO : (Kd.int .i64).R 3 w base ok v xs) (hl : xs.length < 4611686018427387904) :
    Calls Tryd.prog 17 #[v] w fun e w' => e = .returned (.tuple #[]) ∧ (Kd.int .i64).R 3 w' base ok v (srt xs) ∧ w.grownBy w' v.ownBlock := by
  have hown := Kd.own_of_R HO
  rcases hown.2 with ⟨rfl, hz⟩ | ⟨gb, cap, cur, rfl, hbase, hgb, r1, r2, r3, r4⟩
  · have hss : xs = [] := List.eq_nil_of_length_eq_zero (by simpa using hz)
    subst hss
    have h := AnyM.slices_Sort_int_none Tryd.sortA none 0 w
    change Calls Tryd.prog 17 #[.slice none 0 0] w _ at h
    refine h.mono ?_
    rintro e w' ⟨rfl, rfl⟩
    have e0 : srt [] = [] := by simp [srt]
    rw [e0]
    exact ⟨rfl, HO, World.grownBy.refl _ _⟩
  · have hH : Holds encZ w gb 0 xs.toArray := holds_of_block_i hgb (by rw [Nat.mul_one] at r4; exact r4)
    have hgl : gb < w.heap.size := (Array.getElem?_eq_some_iff.1 hgb).1
    have h := AnyM.slices_Sort_int Tryd.sortA gb 0 cap xs w hH hgl hl
    change Calls Tryd.prog 17 #[.slice (some ⟨gb, 0, none⟩) xs.length cap] w _ at h
    refine h.mono ?_
    rintro e w' ⟨rfl, nn, os, rfl⟩
    refine ⟨rfl, ?_, by simpa [Value.ownBlock] using grownBy_sorted_i _⟩
    have hrow := ownsRow_sorted_i (n := nn) (os := os) (ts := srt xs) (by simp [srt_length]) hbase hgb r1 r2 r3
    rw [← srt_length xs] at hrow ⊢
    exact Kd.R_of_own hrow (fun k hk => HO.1 k (by simpa [Value.ownBlock] using hk))

theorem sorts_in (m : Nat) : AnyZI.SortsIn Tryd.prog Tryd.sortedA_ren Fence.wide m :=
  ⟨fun blk off cap ss W hH hblk hsz => callsIn_wide.2 (AnyM.slices_Sort_int Tryd.sortA blk off cap ss W hH hblk hsz),
   fun p cap W => callsIn_wide.2 (AnyM.slices_Sort_int_none Tryd.sortA p cap W)⟩

theorem keys_calls (mb : Option Nat) (W : World) : Calls Tryd.prog 21 #[.map mb] W fun e w' => e = .returned (.func (.func 30) #[] #[.pointer (some ⟨W.heap.size, 0, none⟩)]) ∧ w' = W.alloc (.cells #[.map mb] 50) :=
  callsIn_wide.1 (AnyZI.keys_in Tryd.keysA Fence.wide 5 trivial rfl mb W)

theorem mem_intKeys {D : DataW Value} {k : TypeId} {b n : Nat} {w : World} (hown : w.ownsMap Tryd.prog k heldR b n D) (hk : Tryd.prog.underlying k = some (.int .i64)) :
    (intKeys D).Nodup ∧ ∀ x, x ∈ intKeys D ↔ Maps.has D (.int .i64 x) = true := by
  obtain ⟨es, hD, hpw, _⟩ := hown.entries (int_keyed hk)
  obtain ⟨es', hD', hko⟩ := hown.keysOf
  obtain rfl : es = es' := by rw [hD] at hD'; simpa using hD'
  subst hD
  have hk' : ∀ p ∈ es, ∃ x, p.1 = .int .i64 x := fun p hp => by obtain ⟨v, hv⟩ := hko p hp; obtain ⟨x, _, hx, _⟩ := Maps.keyOf_i64 hk hv; exact ⟨x, hx⟩
  refine ⟨?_, fun x => ?_⟩
  · show (es.map fun p => Go.intOf p.1).Nodup
    refine List.pairwise_map.2 (hpw.imp_of_mem fun {p q} hp' hq' hne e => hne ?_)
    obtain ⟨a, ha⟩ := hk' p hp'
    obtain ⟨b, hb⟩ := hk' q hq'
    rw [ha, hb] at e ⊢
    exact congrArg _ e
  · rw [has_eq, List.any_eq_true]
    show x ∈ es.map (fun p => Go.intOf p.1) ↔ _
    rw [List.mem_map]
    constructor
    · rintro ⟨p, hp', rfl⟩
      obtain ⟨a, ha⟩ := hk' p hp'
      exact ⟨p, hp', by rw [ha]; simp [Lit.sameKey, Go.intOf]⟩
    · rintro ⟨p, hp', hs⟩
      obtain ⟨a, ha⟩ := hk' p hp'
      rw [ha] at hs
      exact ⟨p, hp', by rw [ha]; simpa [Lit.sameKey, Go.intOf] using hs⟩

set_option maxHeartbeats 1000000 in
theorem sortedKeys_calls (b n : Nat) (f : Lit → Option Value) (w : World) (hM : MapIs w Tryd.prog 3 b n f) (hn : n ≤ 1000000) :
    Calls Tryd.prog 20 #[.func (.func 30) #[] #[.pointer (some ⟨w.heap.size, 0, none⟩)]] (w.alloc (.cells #[.map (some b)] 50)) fun e w' => ∃ v zs, e = .returned v ∧
      (Kd.int .i64).R 3 w' (w.heap.size + 1) (fun _ => True) v zs ∧ zs.length ≤ n ∧ (zs.Nodup ∧ zs.Pairwise (· ≤ ·) ∧ ∀ x, x ∈ zs ↔ (f (.int .i64 x)).isSome = true) ∧ Below (w.heap.size + 1) (w.alloc (.cells #[.map (some b)] 50)) w' := by
  obtain ⟨D0, hown, h1, h2⟩ := hM
  have hbl := hown.lt
  have hsz : Maps.size D0 ≤ n := hown.size_le
  have hseq : SeqGives Fence.wide 2 Tryd.prog 30 #[.pointer (some ⟨w.heap.size, 0, none⟩)] encZ (fun ss => ss.Perm (intKeys D0)) (Maps.size D0) (w.alloc (.cells #[.map (some b)] 50)) :=
    AnyZI.keys_gives (ρ := Tryd.keysA_ren) { Tryd.keysA with } Fence.wide _ trivial rfl (by omega) w.heap.size b n D0 _ (by simp) (by simp) (by
      obtain ⟨es, clock, hb, Ft, hs, hD⟩ := hown
      exact ⟨es, clock, (Below.heap_alloc _ _ b hbl).trans hb, Ft, hs, hD⟩)
  have h := AnyZI.sorted_in Tryd.sortedA Fence.wide 5 trivial trivial trivial trivial rfl (by omega) (sorts_in _) (enters_of Tryd.func17 (by kernel_rfl) rfl) 30 #[.pointer (some ⟨w.heap.size, 0, none⟩)] trivial (enters_of Tryd.func30 (by kernel_rfl) rfl) _ _ (by unfold maxLen; omega) (by omega) _ hseq
  change CallsIn _ _ Tryd.prog 20 _ _ _ at h
  refine (callsIn_wide.1 h).mono ?_
  rintro e w' ⟨v, ss, rfl, hS, hrow, hnil, hb⟩
  obtain ⟨hk1, hk2⟩ := mem_intKeys hown Tryd.underlying3
  have hlen : ss.length = Maps.size D0 := by
    rw [hS.length_eq]
    obtain ⟨es, rfl⟩ := hown.isMap
    simp [intKeys, Maps.size]
  refine ⟨v, srt ss, rfl, ?_, by rw [srt_length]; omega, ⟨srt_nodup (hS.nodup_iff.2 hk1), srt_sorted ss, fun x => ?_⟩, by simpa using hb⟩
  · rw [World.size_alloc] at hrow
    refine Kd.R_of_own ?_ (fun _ _ => trivial)
    rw [srt_length]
    exact hrow
  · rw [mem_srt, hS.mem_iff, hk2, h2]
end Go.Proofs.YtaogmbiepbhmoaaDoor.A

/- sense.has and sense.Type walked. -/
import Derived.Test.YtlgcceojnbobeaaDoorFields
import Derived.Shelf.Slices.Turned
namespace Go.Proofs.YtlgcceojnbobeaaDoor.A
open Go.RowKit Go.Shelf Go.Proofs.YtlgcceojnbobeaaDoorW.PrintWords Go.Proofs.YtlgcceojnbobeaaDoorW.PrintLast Go.Proofs.YtlgcceojnbobeaaDoorW.PrintMore
set_option linter.unusedVariables false
set_option linter.unusedSimpArgs false

theorem among_calls (b c : Nat) (zs : List ByteArray) (x : ByteArray) (w : World) (hbig : zs.length ≤ 9223372036854775807) (hb : w.heap[b]? = some (.cells (zs.map Value.string).toArray 9 (0, 0))) :
    Calls Tryd.prog 44 #[.slice (some ⟨b, 0, none⟩) zs.length c, .string x] w fun e w' => e = .returned (.bool (Lib.containsS zs x)) ∧ w' = w := by
  have h := Any.slices_Contains_string Tryd.lays110 b 0 zs.length c zs x w (Nat.le_refl _) hbig (fun j hj => by
    rw [Nat.zero_add, blk_cell hb j]
    simp [hj])
  rw [List.take_length] at h
  exact h
def hasP (k : Int) (x : ByteArray) : Bool := Lib.containsS (FP k) x
set_option maxHeartbeats 4000000 in
set_option maxRecDepth 100000 in
theorem sees_calls (k : Int) (hk : Kind6 k) (x : ByteArray) (w : World) (hg : Glob w) : Calls Tryd.prog 30 #[.int .i64 k, .string x] w fun e w' => e = .returned (.bool (hasP k x)) ∧ Below w.heap.size w w' := by
  have HQ := Aside0.mk (fields_calls k hk w hg)
  have HL : Aside0 ((FP k).length ≤ 9223372036854775807) := ⟨by rcases hk with rfl | rfl | rfl | rfl | rfl | rfl <;> decide⟩
  have HP : Aside0 (hasP k x = Lib.containsS (FP k) x) := ⟨rfl⟩
  generalize FP k = zs at HQ HL HP
  clear hg hk
  go_enter Tryd.func30, Tryd.ntmps30
  go_wp2_with fail
  refine HQ.out.mono ?_
  rintro e w' ⟨b, c, rfl, h1, h2, h3⟩
  have HC := Aside0.mk (among_calls b c zs x w' HL.out h2)
  replace h3 := Aside0.mk h3
  clear HQ h1 h2
  go_wp2_with fail
  refine HC.out.mono ?_
  rintro e w2 ⟨rfl, rfl⟩
  clear HC
  go_wp2_with fail
  go_ret
  exact ⟨by rw [HP.out]; rfl, h3.out⟩
/-- Has one of the first kinds this field? -/
def knownK (k : Nat) (x : ByteArray) : Bool := (List.range k).any fun i => hasP (i : Int) x
theorem known_succ (k : Nat) (x : ByteArray) : knownK (k + 1) x = (knownK k x || hasP (k : Int) x) := by
  simp [knownK, List.range_succ]
def sumT : ByteArray := ⟨#[115, 117, 109]⟩
def boxesT : ByteArray := ⟨#[98, 111, 120, 101, 115]⟩
def termT : ByteArray := ⟨#[116, 101, 114, 109]⟩
def issuedT : ByteArray := ⟨#[105, 115, 115, 117, 101, 100]⟩
/-- The type of a field. -/
def typeP (x : ByteArray) : Int := if knownK 6 x = false then -1 else if x = sumT ∨ x = boxesT ∨ x = termT then 1 else if x = issuedT then 2 else 0
theorem eqL {x : ByteArray} {l : List UInt8} (h : x = tx l) : (x.toList == l) = true := by subst h; rw [ByteArray.toList_eq, tl_tx]; exact beq_self_eq_true _
theorem neL {x : ByteArray} {l : List UInt8} (h : x ≠ tx l) : (x.toList == l) = false := by
  rw [ByteArray.toList_eq, beq_eq_false_iff_ne]
  intro e
  exact h (by rw [← tx_of x, e])
theorem eqT {a b : ByteArray} (h : a ≠ b) : (a.toList == b.toList) = false := txt_ne (fun e => h (by rw [← tx_of a, ← tx_of b, e]))
set_option maxHeartbeats 4000000 in
set_option maxRecDepth 100000 in
theorem type_calls (x : ByteArray) (w : World) (hg : Glob w) : Calls Tryd.prog 15 #[.string x] w fun e w' => e = .returned (.int .i64 (typeP x)) ∧ Below w.heap.size w w' := by
  have HK := Aside0.mk (sense_kinds.calls _ w rfl)
  have HG := Aside0.mk hg
  clear hg
  go_enter Tryd.func15, Tryd.ntmps15
  go_wp2_with fail
  refine HK.out.mono ?_
  rintro e w1 ⟨v, rfl, hR, hB⟩
  obtain ⟨A, c, hv⟩ := Kd.R_slice hR
  replace hv : v = .slice A 6 c := hv
  subst hv
  have HB1 := Aside0.mk hB
  clear hR hB HK
  go_wp2_with fail
  go_loopw [3, 7] (fun b i wr => ∃ k : Nat, k ≤ 6 ∧ i = .int .i64 k ∧ b = .bool (knownK k x) ∧ Aside0 (Below w.heap.size w wr))
    (fun _ i _ => 6 - (RowKit.intOf i).toNat)
  case atStart => exact ⟨0, by omega, rfl, rfl, HB1⟩
  case round =>
    obtain ⟨k, hk, rfl, rfl, HB⟩ := hrel
    by_cases hlt : k < 6
    · have HS := Aside0.mk (sees_calls (k : Int) (by unfold Kind6; omega) x wr (HG.out.below HB.out))
      have HE := Aside0.mk (known_succ k x)
      have hw : IntKind.i64.wrap ((k : Int) + 1) = ((k + 1 : Nat) : Int) := by rw [wrap_small _ (by omega) (by omega)]; omega
      generalize knownK k x = b at HE ⊢
      cases b
      · go_wp2_with fail
        refine HS.out.mono ?_
        rintro e w2 ⟨rfl, hB2⟩
        have HB2 := Aside0.mk (HB.out.trans (hB2.mono HB.out.size))
        clear hB2 HS
        go_wp2_with fail
        go_roundw
        case rel => exact ⟨k + 1, by omega, by go_num, by rw [HE.out]; rfl, HB2⟩
        case measure => simp [RowKit.intOf]; omega
      · go_wp2_with fail
        go_roundw
        case rel => exact ⟨k + 1, by omega, by go_num, by rw [HE.out]; rfl, HB⟩
        case measure => simp [RowKit.intOf]; omega
    · obtain rfl : k = 6 := by omega
      have HT : Aside0 (typeP x = if knownK 6 x = false then -1 else if x = sumT ∨ x = boxesT ∨ x = termT then 1 else if x = issuedT then 2 else 0) := ⟨rfl⟩
      generalize knownK 6 x = b at HT ⊢
      clear hlt
      cases b
      · replace HT := Aside0.mk (HT.out.trans (if_pos rfl))
        go_wp2_with fail
        go_ret
        exact ⟨by rw [HT.out]; rfl, HB.out⟩
      · replace HT := Aside0.mk (HT.out.trans (if_neg (by decide)))
        by_cases c1 : x = sumT
        · have HT1 : Aside0 (typeP x = 1) := ⟨HT.out.trans (if_pos (.inl c1))⟩
          have e1 : (x.toList == ([115, 117, 109] : List UInt8)) = true := eqL c1
          clear c1 HT
          go_wp2_with fail
          go_ret
          exact ⟨by rw [HT1.out]; rfl, HB.out⟩
        · have e1 : (x.toList == ([115, 117, 109] : List UInt8)) = false := neL c1
          by_cases c2 : x = boxesT
          · have HT1 : Aside0 (typeP x = 1) := ⟨HT.out.trans (if_pos (.inr (.inl c2)))⟩
            have e2 : (x.toList == ([98, 111, 120, 101, 115] : List UInt8)) = true := eqL c2
            clear c1 c2 HT
            go_wp2_with fail
            go_ret
            exact ⟨by rw [HT1.out]; rfl, HB.out⟩
          · have e2 : (x.toList == ([98, 111, 120, 101, 115] : List UInt8)) = false := neL c2
            by_cases c3 : x = termT
            · have HT1 : Aside0 (typeP x = 1) := ⟨HT.out.trans (if_pos (.inr (.inr c3)))⟩
              have e3 : (x.toList == ([116, 101, 114, 109] : List UInt8)) = true := eqL c3
              clear c1 c2 c3 HT
              go_wp2_with fail
              go_ret
              exact ⟨by rw [HT1.out]; rfl, HB.out⟩
            · have e3 : (x.toList == ([116, 101, 114, 109] : List UInt8)) = false := neL c3
              replace HT := Aside0.mk (HT.out.trans (if_neg (by rintro (h | h | h) <;> contradiction)))
              by_cases c4 : x = issuedT
              · have HT1 : Aside0 (typeP x = 2) := ⟨HT.out.trans (if_pos c4)⟩
                have e4 : (x.toList == ([105, 115, 115, 117, 101, 100] : List UInt8)) = true := eqL c4
                clear c1 c2 c3 c4 HT
                go_wp2_with fail
                go_ret
                exact ⟨by rw [HT1.out]; rfl, HB.out⟩
              · have HT1 : Aside0 (typeP x = 0) := ⟨HT.out.trans (if_neg c4)⟩
                have e4 : (x.toList == ([105, 115, 115, 117, 101, 100] : List UInt8)) = false := neL c4
                clear c1 c2 c3 c4 HT
                go_wp2_with fail
                go_ret
                exact ⟨by rw [HT1.out]; rfl, HB.out⟩
theorem type_issued : typeP issuedT = 2 := by decide
end Go.Proofs.YtlgcceojnbobeaaDoor.A

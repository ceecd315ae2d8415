/- field.Number and sense.Value at this dump: the number that a text's digits tell. -/
import Derived.Test.YtlgcceojnbobeaaDoorLays
import Derived.Test.YtlgcceojnbobeaaDoorAx0
import Derived.WalkSmall
import Derived.Lib.AppendIntMem
import Derived.Lib.AtoiErrMem
namespace Go.Proofs.YtlgcceojnbobeaaDoor.A
open Go.RowKit Go.Shelf Go.Lib Go.Proofs.YtlgcceojnbobeaaDoorW.PrintWords Go.Proofs.YtlgcceojnbobeaaDoorW.PrintLast Go.Proofs.YtlgcceojnbobeaaDoorW.PrintMore
set_option linter.unusedVariables false
set_option linter.unusedSimpArgs false

/-- A text out of its letters. -/
def tx (l : List UInt8) : ByteArray := ⟨l.toArray⟩
theorem tx_size (l : List UInt8) : (tx l).size = l.length := by simp [tx, ByteArray.size]
theorem tx_of (s : ByteArray) : tx s.data.toList = s := by
  apply ByteArray.ext
  simp [tx]
theorem tl_tx (l : List UInt8) : (tx l).data.toList = l := by simp [tx]

theorem txt_eq {a b : ByteArray} (h : a = b) : (a.toList == b.toList) = true := by subst h; exact beq_self_eq_true _
theorem txt_ne {a b : ByteArray} (h : a.data.toList ≠ b.data.toList) : (a.toList == b.toList) = false := by
  rw [ByteArray.toList_eq, ByteArray.toList_eq, beq_eq_false_iff_ne]
  exact h
/-- What the listed variables hold, as the walks need it. -/
structure Glob (w : World) : Prop where
  syn : ∃ tp p, w.var? Tryd.prog "strconv.ErrSyntax" = some #[.iface tp p]
  rng : ∃ tp p, w.var? Tryd.prog "strconv.ErrRange" = some #[.iface tp p]
  pow : TabIs Tryd.prog w "internal/strconv.uint64pow10" .u64 pow10Tab
  spc : TabIs Tryd.prog w "strings.asciiSpace" .u8 asciiSpaceTab
  max : ∃ m, w.cell? ⟨5, 0, none⟩ = some (.int .i64 m)
  big : 9 ≤ w.heap.size
theorem Glob.below {w w' : World} (h : Glob w) (hb : Below w.heap.size w w') : Glob w' := by
  have hg := h.big
  obtain ⟨t1, p1, h1⟩ := h.syn
  obtain ⟨t2, p2, h2⟩ := h.rng
  obtain ⟨m, h5⟩ := h.max
  refine ⟨⟨t1, p1, ?_⟩, ⟨t2, p2, ?_⟩, ?_, ?_, ⟨m, ?_⟩, Nat.le_trans hg hb.size⟩
  · exact var?_below hb (g := 2) (by kernel_rfl) (by omega) h1
  · exact var?_below hb (g := 3) (by kernel_rfl) (by omega) h2
  · exact var?_below hb (g := 4) (by kernel_rfl) (by omega) h.pow
  · exact var?_below hb (g := 0) (by kernel_rfl) (by omega) h.spc
  · exact (hb.cell (p := ⟨5, 0, none⟩) (show 5 < w.heap.size by omega)).trans h5

/-- The number of a text: none, if its digits are no number's. -/
def numP (s : List UInt8) : Option Int :=
  match parseIntB 64 s with
  | .ok v => if -4611686018427387904 ≤ v ∧ v ≤ 4611686018427387904 ∧ itoa v = s then some v else none
  | _ => none
theorem parse_ok (s : ByteArray) (hs : s.size ≤ 281474976710656) (v : Int) (h : parseIntB 64 s.data.toList = .ok v) (w : World) :
    Calls Tryd.prog 39 #[.string s, .int .i64 10, .int .i64 64] w fun e w' => e = .returned (.tuple #[.int .i64 v, .nilIface]) ∧ Below w.heap.size w w' :=
  (Any.strconv_ParseInt_10_at64_ok Tryd.laysC174 s (by omega) v h w).mono (by
    rintro e w' ⟨rfl, rfl | ⟨t, rfl⟩⟩
    · exact ⟨rfl, Below.refl _ _⟩
    · exact ⟨rfl, bytesWorld_below _ _ _⟩)
theorem parse_no (s : ByteArray) (hs : s.size ≤ 281474976710656) (h : ∀ v, parseIntB 64 s.data.toList ≠ .ok v) (w : World) (hg : Glob w) :
    Calls Tryd.prog 39 #[.string s, .int .i64 10, .int .i64 64] w fun e w' => ∃ x t N, e = .returned (.tuple #[.int .i64 x, .iface t (.pointer (some ⟨N, 0, none⟩))]) ∧ Below w.heap.size w w' := by
  obtain ⟨t1, p1, h1⟩ := hg.syn
  obtain ⟨t2, p2, h2⟩ := hg.rng
  rcases e : parseIntB 64 s.data.toList with v | _ | _
  · exact absurd e (h v)
  · refine (Any.strconv_ParseInt_10_at64_syntax_var Tryd.laysC174 s hs e t1 p1 w h1).mono ?_
    rintro e w' ⟨N, rfl, _, _, hb⟩
    exact ⟨_, _, N, rfl, hb⟩
  · refine (Any.strconv_ParseInt_10_at64_range_var Tryd.laysC174 s hs e t2 p2 w h2).mono ?_
    rintro e w' ⟨N, rfl, _, _, hb⟩
    exact ⟨_, _, N, rfl, hb⟩
theorem format_calls (n : Int) (h : -9223372036854775808 ≤ n ∧ n ≤ 9223372036854775807) (w : World) (ht : TabIs Tryd.prog w "internal/strconv.uint64pow10" .u64 pow10Tab) :
    Calls Tryd.prog 40 #[.int .i64 n, .int .i64 10] w fun e w' => e = .returned (.string (tx (itoa n))) ∧ Below w.heap.size w w' :=
  (Any.strconv_FormatInt_10 Tryd.laysM173 n h.1 h.2 w ht).mono (by rintro e w' ⟨rfl, k, os, rfl⟩; exact ⟨rfl, below_grow _ _ (Nat.le_refl _) k os⟩)

theorem parse_bound {l : List UInt8} {v : Int} (h : parseIntB 64 l = .ok v) : -9223372036854775808 ≤ v ∧ v ≤ 9223372036854775807 := by
  unfold parseIntB at h
  split at h
  · cases h
  · rename_i c r
    simp only at h
    split at h
    · cases h
    · cases h
    · rename_i u _
      have e1 : (2 : Nat) ^ (64 - 1) = 9223372036854775808 := by decide
      rw [e1] at h
      split at h
      · cases h
      · split at h
        · cases h
        · rename_i h1 h2
          injection h with h
          subst h
          split <;> omega
set_option maxHeartbeats 4000000 in
set_option maxRecDepth 100000 in
theorem number_calls (s : ByteArray) (hs : s.size ≤ 281474976710656) (w : World) (hg : Glob w) :
    Calls Tryd.prog 27 #[.string s] w fun e w' => e = .returned (.tuple #[.int .i64 ((numP s.data.toList).getD 0), .bool (numP s.data.toList).isSome]) ∧ Below w.heap.size w w' := by
  have HG := Aside0.mk hg
  clear hg
  by_cases h : ∃ v, parseIntB 64 s.data.toList = .ok v
  · obtain ⟨v, h⟩ := h
    have hb := parse_bound h
    have HP := Aside0.mk h
    have HN : Aside0 (numP s.data.toList = if -4611686018427387904 ≤ v ∧ v ≤ 4611686018427387904 ∧ itoa v = s.data.toList then some v else none) := ⟨by unfold numP; rw [h]⟩
    obtain ⟨np, hnp⟩ : ∃ np, np = numP s.data.toList := ⟨_, rfl⟩
    rw [← hnp] at HN ⊢
    clear h hnp
    by_cases h1 : v < -4611686018427387904
    · have e : np = none := by rw [HN.out, if_neg (by omega)]
      subst e
      go_enter Tryd.func27, Tryd.ntmps27
      go_wp2_with fail
      refine (parse_ok s hs v HP.out _).mono ?_
      rintro e w1 ⟨rfl, hB1⟩
      replace hB1 := Aside0.mk hB1
      go_wp2_with fail
      go_ret2
      exact ⟨rfl, hB1.out⟩
    · by_cases h2 : v > 4611686018427387904
      · have e : np = none := by rw [HN.out, if_neg (by omega)]
        subst e
        go_enter Tryd.func27, Tryd.ntmps27
        go_wp2_with fail
        refine (parse_ok s hs v HP.out _).mono ?_
        rintro e w1 ⟨rfl, hB1⟩
        replace hB1 := Aside0.mk hB1
        go_wp2_with fail
        go_ret2
        exact ⟨rfl, hB1.out⟩
      · by_cases h3 : itoa v = s.data.toList
        · have e : np = some v := by rw [HN.out, if_pos ⟨by omega, by omega, h3⟩]
          subst e
          obtain rfl : s = tx (itoa v) := by rw [h3, tx_of]
          clear h3 HN
          go_enter Tryd.func27, Tryd.ntmps27
          go_wp2_with fail
          refine (parse_ok _ hs v HP.out _).mono ?_
          rintro e w1 ⟨rfl, hB1⟩
          replace hB1 := Aside0.mk hB1
          go_wp2_with fail
          refine (format_calls v hb _ (HG.out.below hB1.out).pow).mono ?_
          rintro e w2 ⟨rfl, hB2⟩
          replace hB2 := Aside0.mk (hB1.out.trans (hB2.mono hB1.out.size))
          go_wp2_with fail
          go_ret2
          exact ⟨rfl, hB2.out⟩
        · have e : np = none := by rw [HN.out, if_neg (fun h => h3 h.2.2)]
          subst e
          have h4 := Aside0.mk (txt_ne (a := tx (itoa v)) (b := s) (fun e => h3 (by rw [← e, tl_tx])))
          go_enter Tryd.func27, Tryd.ntmps27
          go_wp2_with fail
          refine (parse_ok _ hs v HP.out _).mono ?_
          rintro e w1 ⟨rfl, hB1⟩
          replace hB1 := Aside0.mk hB1
          go_wp2_with fail
          refine (format_calls v hb _ (HG.out.below hB1.out).pow).mono ?_
          rintro e w2 ⟨rfl, hB2⟩
          replace hB2 := Aside0.mk (hB1.out.trans (hB2.mono hB1.out.size))
          go_wp2_with fail
          · go_ret2
            exact ⟨rfl, hB2.out⟩
          · exfalso
            have hx := ‹_ ∧ (!(tx (itoa v)).toList == s.toList) = false›.2
            rw [h4.out] at hx
            cases hx
  · have HN : Aside0 (numP s.data.toList = none) := ⟨by
      unfold numP
      split
      · rename_i v hv; exact absurd ⟨v, hv⟩ h
      · rfl⟩
    rw [HN.out]
    go_enter Tryd.func27, Tryd.ntmps27
    go_wp2_with fail
    refine (parse_no s hs (fun v hv => h ⟨v, hv⟩) _ HG.out).mono ?_
    rintro e w1 ⟨x, t, N, rfl, hB1⟩
    replace hB1 := Aside0.mk hB1
    go_wp2_with fail
    go_ret2
    exact ⟨rfl, hB1.out⟩

/-- The value of a text, for a type. -/
def valQ (np : Option Int) (kind : Int) : Int × Bool :=
  match np with
  | some n => if 0 ≤ n ∧ (kind = 1 ∨ kind = 2 ∧ n ≤ 1048576) then (n, true) else (0, false)
  | none => (0, false)
def valP (s : List UInt8) (kind : Int) : Int × Bool := valQ (numP s) kind
set_option maxHeartbeats 8000000 in
set_option maxRecDepth 100000 in
theorem value_calls (s : ByteArray) (kind : Int) (hs : s.size ≤ 281474976710656) (w : World) (hg : Glob w) :
    Calls Tryd.prog 10 #[.string s, .int .i64 kind] w fun e w' => e = .returned (.tuple #[.int .i64 (valP s.data.toList kind).1, .bool (valP s.data.toList kind).2]) ∧ Below w.heap.size w w' := by
  have HG := Aside0.mk hg
  clear hg
  obtain ⟨np, hnp⟩ : ∃ np, Aside0 (numP s.data.toList = np) := ⟨_, ⟨rfl⟩⟩
  have hc := number_calls s hs w HG.out
  rw [hnp.out] at hc
  replace hc := Aside0.mk hc
  have HV : Aside0 (valP s.data.toList kind = valQ np kind) := ⟨by unfold valP; rw [hnp.out]⟩
  rw [HV.out]
  clear HV hnp
  cases np with
  | none =>
    rw [show valQ none kind = (0, false) from rfl]
    go_enter Tryd.func10, Tryd.ntmps10
    go_wp2_with fail
    refine hc.out.mono ?_
    rintro e w1 ⟨rfl, hB1⟩
    replace hB1 := Aside0.mk hB1
    go_wp2_with fail
    go_ret2
    exact ⟨rfl, hB1.out⟩
  | some n =>
    simp only [Option.getD_some, Option.isSome_some] at hc
    by_cases h0 : n < 0
    · have e : valQ (some n) kind = (0, false) := if_neg (by omega)
      rw [e]
      clear e
      go_enter Tryd.func10, Tryd.ntmps10
      go_wp2_with fail
      refine hc.out.mono ?_
      rintro e w1 ⟨rfl, hB1⟩
      replace hB1 := Aside0.mk hB1
      go_wp2_with fail
      go_ret2
      exact ⟨rfl, hB1.out⟩
    · by_cases h1 : kind = 1
      · have e : valQ (some n) kind = (n, true) := if_pos (by omega)
        rw [e]
        clear e
        subst h1
        go_enter Tryd.func10, Tryd.ntmps10
        go_wp2_with fail
        refine hc.out.mono ?_
        rintro e w1 ⟨rfl, hB1⟩
        replace hB1 := Aside0.mk hB1
        go_wp2_with fail
        go_ret2
        exact ⟨rfl, hB1.out⟩
      · by_cases h2 : kind = 2
        · by_cases h3 : n ≤ 1048576
          · have e : valQ (some n) kind = (n, true) := if_pos (by omega)
            rw [e]
            clear e h1
            subst h2
            go_enter Tryd.func10, Tryd.ntmps10
            go_wp2_with fail
            refine hc.out.mono ?_
            rintro e w1 ⟨rfl, hB1⟩
            replace hB1 := Aside0.mk hB1
            go_wp2_with fail
            go_ret2
            exact ⟨rfl, hB1.out⟩
          · have e : valQ (some n) kind = (0, false) := if_neg (by omega)
            rw [e]
            clear e h1
            subst h2
            go_enter Tryd.func10, Tryd.ntmps10
            go_wp2_with fail
            refine hc.out.mono ?_
            rintro e w1 ⟨rfl, hB1⟩
            replace hB1 := Aside0.mk hB1
            go_wp2_with fail
            go_ret2
            exact ⟨rfl, hB1.out⟩
        · have e : valQ (some n) kind = (0, false) := if_neg (by omega)
          rw [e]
          clear e
          have b1 : (kind != 1) = true := by simpa using h1
          have b2 : (kind != 2) = true := by simpa using h2
          go_enter Tryd.func10, Tryd.ntmps10
          go_wp2_with fail
          refine hc.out.mono ?_
          rintro e w1 ⟨rfl, hB1⟩
          replace hB1 := Aside0.mk hB1
          go_wp2_with fail
          go_ret2
          exact ⟨rfl, hB1.out⟩
end Go.Proofs.YtlgcceojnbobeaaDoor.A

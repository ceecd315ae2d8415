/- The reference's own Set and Same, walked. -/
import Derived.Test.YtglgajammfcmcaaDoorField
import Derived.Test.YtglgajammfcmcaaDoorAx2
namespace Go.Proofs.YtglgajammfcmcaaDoor.A
open Go.RowKit Go.Shelf Go.Proofs.YtglgajammfcmcaaDoorW.PrintWords Go.Proofs.YtglgajammfcmcaaDoorW.PrintLast Go.Proofs.YtglgajammfcmcaaDoorW.PrintMore
set_option linter.unusedVariables false
set_option linter.unusedSimpArgs false

/-- What the reference's loop still appends. -/
def rest (n v : ByteArray) : List S42 → Bool → List S42
  | [], d => if d then [] else [⟨n, v⟩]
  | x :: l, d => if eqB x.f0 n && !d then ⟨x.f0, v⟩ :: rest n v l true else x :: rest n v l d
theorem rest_true (n v : ByteArray) : ∀ l, rest n v l true = l
  | [] => rfl
  | x :: l => by simp [rest, rest_true n v l]
theorem rest_false (n v : ByteArray) : ∀ l, rest n v l false = setP n v l
  | [] => rfl
  | x :: l => by
    by_cases h : eqB x.f0 n = true
    · simp [rest, setP, h, rest_true]
    · simp [rest, setP, h, rest_false n v l]
theorem drop_at (l : List S42) (k : Nat) (h : k < l.length) : l.drop k = rd_T42 l (k : Int) :: l.drop (k + 1) := by
  rw [List.drop_eq_getElem_cons h]; simp [rd_T42, h]
theorem getP_set (n v : ByteArray) : ∀ l, getP n (setP n v l) = (v, true)
  | [] => by simp [setP, getP, eqB_refl]
  | x :: l => by
    by_cases h : eqB x.f0 n = true
    · rw [setP, if_pos h, getP, if_pos h]
    · rw [setP, if_neg h, getP, if_neg h, getP_set n v l]
theorem getP_other {n o v : ByteArray} (hne : ¬ n = o) : ∀ l, getP o (setP n v l) = getP o l
  | [] => by
    have : ¬ eqB n o = true := fun h => hne (eqB_iff.1 h)
    simp [setP, getP, this]
  | x :: l => by
    by_cases h : eqB x.f0 n = true
    · have hx := eqB_iff.1 h
      have : ¬ eqB x.f0 o = true := fun h => hne (hx.symm.trans (eqB_iff.1 h))
      rw [setP, if_pos h, getP, if_neg this, getP, if_neg this]
    · rw [setP, if_neg h]
      by_cases h2 : eqB x.f0 o = true
      · rw [getP, if_pos h2, getP, if_pos h2]
      · rw [getP, if_neg h2, getP, if_neg h2, getP_other hne l]
theorem setP_len (n v : ByteArray) : ∀ l, (setP n v l).length ≤ l.length + 1
  | [] => by simp [setP]
  | x :: l => by
    have := setP_len n v l
    by_cases h : eqB x.f0 n = true
    · rw [setP, if_pos h]; simp
    · rw [setP, if_neg h]; simp; omega
theorem same_loop (l : List S42) (hl : l.length ≤ 2000) : ∀ (k i : Nat), l.length - i < k → i ≤ l.length → supercargoref05_Same.l0 k l l (i : Int) = some true
  | 0, i, h, _ => by omega
  | k + 1, i, h, hi => by
    rw [supercargoref05_Same.l0]
    by_cases h1 : i < l.length
    · rw [if_pos (by omega), if_pos (by omega), if_pos (by omega), if_neg (by simp)]
      rw [show wrap64 ((i : Int) + 1) = ((i + 1 : Nat) : Int) from by
        unfold wrap64; omega]
      exact same_loop l hl k (i + 1) (by omega) (by omega)
    · rw [if_neg (by omega)]
theorem same_self (l : List S42) (hl : l.length ≤ 2000) : supercargoref05_Same.f (l.length + 1) l l = some true := by
  unfold supercargoref05_Same.f
  rw [if_pos rfl]
  exact same_loop l hl _ 0 (by omega) (by omega)
set_option maxHeartbeats 4000000 in
set_option maxRecDepth 100000 in
theorem refset_calls (A : Option Addr) (c : Nat) (l : List S42) (n v : ByteArray) (w : World) (hC : Kd.C k42 w A l.length l) (hs : l.length ≤ 1000) :
    Calls Tryd.prog 8 #[.slice A l.length c, .string n, .string v] w fun e w' => ∃ u, e = .returned u ∧ Kd.R k42 42 w' w.heap.size (fun k => w.heap.size ≤ k) u (setP n v l) ∧ Below w.heap.size w w' := by
  have HR := Aside0.mk hC
  have R0 := Aside0.mk (R_lit0 k42 w 42)
  have B0 : Aside0 (Below w.heap.size w (w.alloc (.cells #[] 42))) := ⟨(Below.refl _ _).alloc (Nat.le_refl _) _⟩
  have hmax := hs
  clear hC hs
  go_enter Tryd.func8, Tryd.ntmps8
  go_wp2_with fail
  go_loopw [7, 8, 9] (fun o d i wr => ∃ (k : Nat) (b : Bool) (acc : List S42), k ≤ l.length ∧ acc.length = k ∧ i = .int .i64 k ∧ d = .bool b ∧ Aside0 (acc ++ rest n v (l.drop k) b = setP n v l) ∧ Aside0 (Kd.R k42 42 wr w.heap.size (fun q => w.heap.size ≤ q) o acc) ∧ Aside0 (Below w.heap.size w wr))
    (fun _ _ i _ => l.length - (intOf i).toNat)
  case atStart => exact ⟨0, false, [], Nat.zero_le _, rfl, rfl, rfl, ⟨by simp [rest_false]⟩, R0, B0⟩
  case round =>
    obtain ⟨k, b, acc, hk, hacc, rfl, rfl, HE, HO, HB⟩ := hrel
    replace hacc := Aside0.mk hacc
    by_cases hlt : k < l.length
    · obtain ⟨ad, e, a0, a1⟩ := at_T42 HR.out (k : Int) (by omega) (by omega)
      replace a0 := cellB' HB.out a0
      replace a1 := cellB' HB.out a1
      simp only [Int.toNat_natCast] at a0 a1
      cases e
      obtain ⟨x, hx⟩ : ∃ x, x = rd_T42 l (k : Int) := ⟨_, rfl⟩
      rw [← hx] at a0 a1
      obtain ⟨A', c', rfl⟩ := Kd.R_slice HO.out
      replace HE := HE.out
      rw [drop_at l k hlt, ← hx, rest] at HE
      clear hx
      have hq : Aside0 (eqB x.f0 n = (x.f0.toList == n.toList)) := ⟨rfl⟩
      by_cases hc : (eqB x.f0 n && !b) = true
      · rw [if_pos hc] at HE
        replace HE : Aside0 ((acc ++ [⟨x.f0, v⟩]) ++ rest n v (l.drop (k + 1)) true = setP n v l) := ⟨by simpa using HE⟩
        obtain ⟨hc1, hc2⟩ := Bool.and_eq_true_iff.1 hc
        obtain rfl : b = false := by simpa using hc2
        have hc1 : (x.f0.toList == n.toList) = true := hc1
        clear hc hc2 hq
        have HO2 : Aside0 (Kd.R k42 42 (wr.alloc (.cells #[.string x.f0, .string v] 42)) w.heap.size (fun q => w.heap.size ≤ q) (.slice A' acc.length c') acc) := ⟨Kd.R_below HO.out ((Below.refl _ _).alloc (Nat.le_refl _) _)⟩
        have HB2 : Aside0 (Below w.heap.size w (wr.alloc (.cells #[.string x.f0, .string v] 42))) := ⟨HB.out.alloc HB.out.size _⟩
        go_wp2_with (at_builtin; refine Kd.R_append k42 (w0 := w) w.heap.size rfl _ _ 22 42 _ 32 rfl Tryd.underlying22 info42 rfl (by decide) (by decide) (.slice A' acc.length c') acc (⟨x.f0, v⟩ : S42) [.string x.f0, .string v] (fun k => w.heap.size ≤ k) (fun _ => False) rfl (by rw [World.size_alloc]; rfl) ?hp (fun _ h => h.elim) ?hf ?ho ?hb ?hs ?hl ?_)
        case hp => exact k42_mkM _ _ _ (⟨x.f0, v⟩ : S42)
        case hf => intro k hk; have := HB.out.size; simp at hk; omega
        case ho => exact HO2.out
        case hb => exact HB2.out
        case hs => exact HB2.out.size
        case hl => have := hacc.out; omega
        intro v1 w3 h3 h4 _ _
        obtain ⟨A3, c3, rfl⟩ := Kd.R_slice h3
        replace h3 := Aside0.mk h3
        replace h4 := Aside0.mk h4
        clear HO HO2 HB HB2
        go_wp2
        go_roundw
        case rel => exact ⟨k + 1, true, acc ++ [⟨x.f0, v⟩], by omega, by simp [hacc.out], by go_num, rfl, HE, h3, h4⟩
        case measure => simp [intOf]; omega
      · rw [if_neg hc] at HE
        replace HE : Aside0 ((acc ++ [x]) ++ rest n v (l.drop (k + 1)) b = setP n v l) := ⟨by simpa using HE⟩
        have HO2 : Aside0 (Kd.R k42 42 (wr.alloc (.cells #[.string x.f0, .string x.f1] 42)) w.heap.size (fun q => w.heap.size ≤ q) (.slice A' acc.length c') acc) := ⟨Kd.R_below HO.out ((Below.refl _ _).alloc (Nat.le_refl _) _)⟩
        have HB2 : Aside0 (Below w.heap.size w (wr.alloc (.cells #[.string x.f0, .string x.f1] 42))) := ⟨HB.out.alloc HB.out.size _⟩
        by_cases hq1 : eqB x.f0 n = true
        · obtain rfl : b = true := by
            cases b
            · exact absurd (by simp [hq1]) hc
            · rfl
          have hq1 : (x.f0.toList == n.toList) = true := hq1
          clear hc hq
          go_wp2_with (at_builtin; refine Kd.R_append k42 (w0 := w) w.heap.size rfl _ _ 22 42 _ 32 rfl Tryd.underlying22 info42 rfl (by decide) (by decide) (.slice A' acc.length c') acc x [.string x.f0, .string x.f1] (fun k => w.heap.size ≤ k) (fun _ => False) rfl (by rw [World.size_alloc]; rfl) ?hp (fun _ h => h.elim) ?hf ?ho ?hb ?hs ?hl ?_)
          case hp => exact k42_mkM _ _ _ x
          case hf => intro k hk; have := HB.out.size; simp at hk; omega
          case ho => exact HO2.out
          case hb => exact HB2.out
          case hs => exact HB2.out.size
          case hl => have := hacc.out; omega
          intro v1 w3 h3 h4 _ _
          obtain ⟨A3, c3, rfl⟩ := Kd.R_slice h3
          replace h3 := Aside0.mk h3
          replace h4 := Aside0.mk h4
          clear HO HO2 HB HB2
          go_wp2
          go_roundw
          case rel => exact ⟨k + 1, true, acc ++ [x], by omega, by simp [hacc.out], by go_num, rfl, HE, h3, h4⟩
          case measure => simp [intOf]; omega
        · have hq1 : (x.f0.toList == n.toList) = false := by simpa [eqB] using hq1
          clear hc hq
          go_wp2_with (at_builtin; refine Kd.R_append k42 (w0 := w) w.heap.size rfl _ _ 22 42 _ 32 rfl Tryd.underlying22 info42 rfl (by decide) (by decide) (.slice A' acc.length c') acc x [.string x.f0, .string x.f1] (fun k => w.heap.size ≤ k) (fun _ => False) rfl (by rw [World.size_alloc]; rfl) ?hp (fun _ h => h.elim) ?hf ?ho ?hb ?hs ?hl ?_)
          case hp => exact k42_mkM _ _ _ x
          case hf => intro k hk; have := HB.out.size; simp at hk; omega
          case ho => exact HO2.out
          case hb => exact HB2.out
          case hs => exact HB2.out.size
          case hl => have := hacc.out; omega
          intro v1 w3 h3 h4 _ _
          obtain ⟨A3, c3, rfl⟩ := Kd.R_slice h3
          replace h3 := Aside0.mk h3
          replace h4 := Aside0.mk h4
          clear HO HO2 HB HB2
          go_wp2
          go_roundw
          case rel => exact ⟨k + 1, b, acc ++ [x], by omega, by simp [hacc.out], by go_num, rfl, HE, h3, h4⟩
          case measure => simp [intOf]; omega
    · obtain rfl : k = l.length := by omega
      replace HE := HE.out
      rw [List.drop_length, rest] at HE
      obtain ⟨A', c', rfl⟩ := Kd.R_slice HO.out
      by_cases hb : b = true
      · rw [if_pos hb, List.append_nil] at HE
        subst hb
        replace HE := Aside0.mk HE
        go_wp2
        go_ret
        exact ⟨_, rfl, HE.out ▸ HO.out, HB.out⟩
      · rw [if_neg hb] at HE
        obtain rfl : b = false := by simpa using hb
        clear hb
        replace HE := Aside0.mk HE
        go_wp2_with (at_builtin; refine Kd.R_append k42 (w0 := w) w.heap.size rfl _ _ 22 42 _ 32 rfl Tryd.underlying22 info42 rfl (by decide) (by decide) (.slice A' acc.length c') acc (⟨n, v⟩ : S42) [.string n, .string v] (fun k => w.heap.size ≤ k) (fun _ => False) rfl rfl ?hp (fun _ h => h.elim) ?hf ?ho ?hb ?hs ?hl ?_)
        case hp => exact k42_mkM _ _ _ (⟨n, v⟩ : S42)
        case hf => intro k hk; have := HB.out.size; omega
        case ho => exact HO.out
        case hb => exact HB.out
        case hs => exact HB.out.size
        case hl => have := hacc.out; omega
        intro v1 w3 h3 h4 _ _
        obtain ⟨A3, c3, rfl⟩ := Kd.R_slice h3
        replace h3 := Aside0.mk h3
        replace h4 := Aside0.mk h4
        clear HO HB
        go_wp2
        go_ret
        exact ⟨_, rfl, HE.out ▸ h3.out, h4.out⟩
end Go.Proofs.YtglgajammfcmcaaDoor.A

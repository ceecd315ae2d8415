/- match.counted: the map of the posts that count, by their numbers. -/
import Derived.Test.YtaogmbiepbhmoaaDoorAx0
import Derived.Test.YtaogmbiepbhmoaaDoorKit
namespace Go.Proofs.YtaogmbiepbhmoaaDoor.A
open Go.RowKit Go.Maps ScKit Go.Proofs.YtaogmbiepbhmoaaDoorW.PrintWords Go.Proofs.YtaogmbiepbhmoaaDoorW.PrintLast Go.Proofs.YtaogmbiepbhmoaaDoorW.PrintMore

/-- The first post of a number. -/
def firstOf (l : List S29) (x : Int) : Option S29 := l.find? (fun p => p.f0 == x)
/-- A post's value. -/
def postV (p : S29) (A : Option Addr) (c : Nat) : Value := .agg #[.int .i64 p.f0, .string p.f1, .slice A p.f2.length c]
/-- The map's content: at each number the first post of l. -/
def Holds1 (W : World) (l : List S29) (f : Lit → Option Value) : Prop :=
  ∀ kl, match f kl with
    | none => ∀ x, kl = .int .i64 x → firstOf l x = none
    | some v => ∃ x p A c, kl = .int .i64 x ∧ firstOf l x = some p ∧ v = postV p A c ∧ p.f2.length ≤ c ∧ Kd.C k46 W A p.f2.length p.f2

def Wf (l : List S29) : Prop := ∀ p ∈ l, (Lit.int .i64 p.f0).wf = true

theorem firstOf_nil (x : Int) : firstOf [] x = none := rfl
theorem firstOf_snoc (l : List S29) (k : Nat) (h : k < l.length) (x : Int) :
    firstOf (l.take (k + 1)) x = (firstOf (l.take k) x).or (if (rd_T29 l k).f0 = x then some (rd_T29 l k) else none) := by
  have e : rd_T29 l k = l[k] := by simp [rd_T29, h]
  rw [List.take_succ_eq_append_getElem h, e]
  unfold firstOf
  rw [List.find?_append]
  congr 1
  by_cases hx : l[k].f0 = x <;> simp [hx]
theorem Holds1.nil (W : World) : Holds1 W [] (fun _ => none) := fun _ _ _ => rfl
theorem Holds1.none_ {W : World} {l : List S29} {f : Lit → Option Value} (h : Holds1 W l f) {x : Int} (hx : firstOf l x = none) : f (.int .i64 x) = none := by
  have := h (.int .i64 x)
  cases hf : f (.int .i64 x) with
  | none => rfl
  | some v =>
    rw [hf] at this
    obtain ⟨y, p, A, c, e, h1, _⟩ := this
    cases e
    rw [hx] at h1
    cases h1
theorem Holds1.some_ {W : World} {l : List S29} {f : Lit → Option Value} (h : Holds1 W l f) {x : Int} {p : S29} (hx : firstOf l x = some p) : ∃ A c, f (.int .i64 x) = some (postV p A c) ∧ p.f2.length ≤ c ∧ Kd.C k46 W A p.f2.length p.f2 := by
  have := h (.int .i64 x)
  cases hf : f (.int .i64 x) with
  | none =>
    rw [hf] at this
    rw [this x rfl] at hx
    cases hx
  | some v =>
    rw [hf] at this
    obtain ⟨y, q, A, c, e, h1, h2, h3, h4⟩ := this
    cases e
    rw [hx] at h1
    cases h1
    exact ⟨A, c, by rw [h2], h3, h4⟩
theorem Holds1.keep {W : World} {l : List S29} {k : Nat} {f : Lit → Option Value} (h : Holds1 W (l.take k) f) (hk : k < l.length) {q : S29} (hq : firstOf (l.take k) (rd_T29 l k).f0 = some q) : Holds1 W (l.take (k + 1)) f := by
  have e : ∀ x, firstOf (l.take (k + 1)) x = firstOf (l.take k) x := by
    intro x
    rw [firstOf_snoc l k hk]
    by_cases hx : (rd_T29 l k).f0 = x
    · subst hx; rw [hq]; rfl
    · rw [if_neg hx]; simp
  intro kl
  have := h kl
  cases hf : f kl with
  | none => rw [hf] at this; intro x hx; rw [e]; exact this x hx
  | some v =>
    rw [hf] at this
    obtain ⟨x, p, A, c, h1, h2, h3⟩ := this
    exact ⟨x, p, A, c, h1, by rw [e]; exact h2, h3⟩
theorem Holds1.add {W : World} {l : List S29} {k : Nat} {f : Lit → Option Value} (h : Holds1 W (l.take k) f) (hk : k < l.length) (hq : firstOf (l.take k) (rd_T29 l k).f0 = none) {A : Option Addr} {c : Nat} (hl : (rd_T29 l k).f2.length ≤ c) (hC : Kd.C k46 W A (rd_T29 l k).f2.length (rd_T29 l k).f2) :
    Holds1 W (l.take (k + 1)) (upd f (.int .i64 (rd_T29 l k).f0) (postV (rd_T29 l k) A c)) := by
  intro kl
  unfold upd
  by_cases e : kl = .int .i64 (rd_T29 l k).f0
  · rw [if_pos e]
    exact ⟨(rd_T29 l k).f0, rd_T29 l k, A, c, e, by rw [firstOf_snoc l k hk, hq, if_pos rfl]; rfl, rfl, hl, hC⟩
  · rw [if_neg e]
    have := h kl
    cases hf : f kl with
    | none =>
      rw [hf] at this
      intro x hx
      rw [firstOf_snoc l k hk, this x hx, if_neg (fun h => e (by rw [hx, h]))]; rfl
    | some v =>
      rw [hf] at this
      obtain ⟨x, p, A, c, h1, h2, h3⟩ := this
      exact ⟨x, p, A, c, h1, by rw [firstOf_snoc l k hk, h2]; rfl, h3⟩

theorem law3 : Keyed Tryd.prog 3 := int_keyed Tryd.underlying3
theorem zero29 (w : World) : (zeroValue 29).run Tryd.prog w = .ok (.agg #[.int .i64 0, .string ⟨#[]⟩, .slice none 0 0]) w := by kernel_rfl

set_option maxHeartbeats 1000000 in
set_option maxRecDepth 100000 in
theorem counted_calls_at (A0 : Option Addr) (c0 : Nat) (l0 : List S29) (w0 w : World) (h0 : Below w0.heap.size w0 w) (hr0 : Kd.C k29 w0 A0 l0.length l0) (_hc0 : l0.length ≤ c0) (hwf : Wf l0) :
    Calls Tryd.prog 15 #[.slice A0 l0.length c0] w fun e w' => ∃ b f, e = .returned (.map (some b)) ∧ w.heap.size ≤ b ∧ MapIs w' Tryd.prog 3 b l0.length f ∧ Holds1 w0 l0 f ∧ Below w.heap.size w w' := by
  have H0 := Aside0.mk h0
  clear h0
  have hmax : l0.length ≤ 9223372036854775807 := hr0.2.1
  have HW := Aside0.mk hwf
  have HR := Aside0.mk hr0
  clear hr0 hwf
  have hmm := @run_makeMap Tryd.prog
  go_enter Tryd.func15, Tryd.ntmps15
  go_wp2
  go_loopw [11] (fun i wr => ∃ k : Nat, k ≤ l0.length ∧ i = .int .i64 k ∧ ∃ f, Aside0 (MapIs wr Tryd.prog 3 w.heap.size k f) ∧ Aside0 (Holds1 w0 (l0.take k) f) ∧ Aside0 (Below w.heap.size w wr))
    (fun i _ => l0.length - (intOf i).toNat)
  case atStart => exact ⟨0, Nat.zero_le _, rfl, _, ⟨MapIs.made _ _ _⟩, ⟨Holds1.nil _⟩, ⟨(Below.refl _ _).alloc (Nat.le_refl _) _⟩⟩
  case round =>
    obtain ⟨k, hk, rfl, f, HM, HH, HB⟩ := hrel
    have HBB : Aside0 (Below w0.heap.size w0 wr) := ⟨H0.out.trans (HB.out.mono H0.out.size)⟩
    by_cases hlt : k < l0.length
    · obtain ⟨ad, A2, c2, e, h0, h1, h2, h3, h4⟩ := at_T29 HR.out (k : Int) (by omega) (by omega)
      replace h0 := cellB HBB.out h0
      replace h1 := cellB HBB.out h1
      replace h2 := cellB HBB.out h2
      simp only [Int.toNat_natCast] at h0 h1 h2
      have hkey := keyOf_int_mk (P := Tryd.prog) (k := 3) Tryd.underlying3 (HW.out (rd_T29 l0 k) (by rw [show rd_T29 l0 k = l0[k] by simp [rd_T29, hlt]]; exact List.getElem_mem hlt))
      have h3 := Aside0.mk h3
      have h4 := Aside0.mk h4
      have hkey := Aside0.mk hkey
      rcases hq : firstOf (l0.take k) (rd_T29 l0 k).f0 with _ | q
      · have hn := Aside0.mk (HH.out.none_ hq)
        have hq := Aside0.mk hq
        cases e
        go_wp2_with (first
          | (at_lookup; refine wp_lookup_ok_none _ rfl _ _ 50 rfl 3 29 law3 Tryd.underlying50 zero29 w.heap.size k f rfl ?hm _ _ rfl hkey.out hn.out ?_)
          | (at_mapUpdate; refine wp_update _ rfl _ _ _ 50 rfl 3 29 law3 Tryd.underlying50 w.heap.size k f rfl ?hm2 ?hn2 _ _ _ rfl rfl hkey.out ?_)
          | go_in)
        case hm => exact HM.out.alloc _
        case hm2 => exact (HM.out.alloc _).alloc _
        case hn2 => unfold maxLen; omega
        intro w1 hm1 hg1
        have R1 := HH.out.add hlt hq.out h3.out h4.out
        have R2 : Below w.heap.size w w1 := ((HB.out.alloc HB.out.size _).alloc (by simp; have := HB.out.size; omega) _).grown hg1 (by simp; have := HB.out.size; omega) (fun j hj => by cases hj; exact Nat.le_refl _)
        have R1 := Aside0.mk R1
        have R2 := Aside0.mk R2
        have hm1 := Aside0.mk hm1
        clear hg1
        go_wp2
        go_roundw
        case rel => exact ⟨k + 1, by omega, by go_num, _, hm1, R1, R2⟩
        case measure => simp [intOf]; omega
      · obtain ⟨A, c, hv, _, _⟩ := HH.out.some_ hq
        have hv := Aside0.mk hv
        have hq := Aside0.mk hq
        cases e
        unfold postV at hv
        go_wp2_with (first
          | (at_lookup; refine wp_lookup_ok_some _ rfl _ _ 50 rfl 3 29 law3 Tryd.underlying50 zero29 w.heap.size k f rfl ?hm _ _ rfl hkey.out _ hv.out ?_)
          | go_in)
        case hm => exact HM.out.alloc _
        go_roundw
        case rel => exact ⟨k + 1, by omega, by go_num, f, ⟨((HM.out.alloc _).alloc _).mono (Nat.le_succ _)⟩, ⟨HH.out.keep hlt hq.out⟩, ⟨(HB.out.alloc HB.out.size _).alloc (by simp; have := HB.out.size; omega) _⟩⟩
        case measure => simp [intOf]; omega
    · obtain rfl : k = l0.length := by omega
      go_wp2
      go_ret
      exact ⟨w.heap.size, f, rfl, Nat.le_refl _, HM.out, by have := HH.out; rwa [List.take_length] at this, HB.out⟩

theorem counted_calls (A0 : Option Addr) (c0 : Nat) (l0 : List S29) (w : World) (hr0 : Kd.C k29 w A0 l0.length l0) (hc0 : l0.length ≤ c0) (hwf : Wf l0) :
    Calls Tryd.prog 15 #[.slice A0 l0.length c0] w fun e w' => ∃ b f, e = .returned (.map (some b)) ∧ w.heap.size ≤ b ∧ MapIs w' Tryd.prog 3 b l0.length f ∧ Holds1 w l0 f ∧ Below w.heap.size w w' :=
  counted_calls_at A0 c0 l0 w w (Below.refl _ _) hr0 hc0 hwf
end Go.Proofs.YtaogmbiepbhmoaaDoor.A

/- match.Diff: what each book has alone, and which posts aren't alike. -/
import Derived.Test.YtaogmbiepbhmoaaDoorOnly
import Derived.Test.YtaogmbiepbhmoaaDoorPure1
import Derived.Test.YtaogmbiepbhmoaaDoorSort
namespace Go.Proofs.YtaogmbiepbhmoaaDoor.A
open Go.RowKit Go.Maps ScKit Go.Proofs.YtaogmbiepbhmoaaDoorW.PrintWords Go.Proofs.YtaogmbiepbhmoaaDoorW.PrintLast Go.Proofs.YtaogmbiepbhmoaaDoorW.PrintMore

/-- A number that stands in both, and not alike. -/
def UnlikeAt (a b : List S29) (x : Int) : Prop := ∃ p q, firstOf a x = some p ∧ firstOf b x = some q ∧ p ≠ q
/-- What was gathered of those numbers whose turn has come. -/
def Gath (a b : List S29) (left : Lit → Bool) (us : List Int) : Prop :=
  us.Nodup ∧ (∀ x, x ∈ us ↔ UnlikeAt a b x ∧ left (.int .i64 x) = false)
theorem sameKey_int (x y : Int) : (Lit.int .i64 x).sameKey (.int .i64 y) = decide (x = y) := by
  by_cases h : x = y
  · subst h; rw [WideAt.sameKey_self (by trivial)]; simp
  · rw [Maps.sameKey_ne (fun e => h (by injection e))]; simp [h]

theorem Gath.start (a b : List S29) (f : Lit → Option Value) (W : World) (h : Holds1 W a f) : Gath a b (fun kl => (f kl).isSome) [] := by
  refine ⟨List.nodup_nil, fun x => ⟨fun hx => by simp at hx, fun ⟨⟨p, q, h1, _⟩, h2⟩ => ?_⟩⟩
  obtain ⟨A, c, hf, _⟩ := h.some_ h1
  dsimp only at h2
  rw [hf] at h2
  cases h2
theorem Gath.stays {a b : List S29} {left : Lit → Bool} {us : List Int} (h : Gath a b left us) {y : Int} (hy : ¬ UnlikeAt a b y) : Gath a b (fun z => left z && !z.sameKey (.int .i64 y)) us := by
  refine ⟨h.1, fun x => (h.2 x).trans ⟨fun ⟨h1, h2⟩ => ⟨h1, by simp [h2]⟩, fun ⟨h1, h2⟩ => ⟨h1, ?_⟩⟩⟩
  dsimp only at h2
  rw [sameKey_int] at h2
  by_cases e : x = y
  · subst e; exact absurd h1 hy
  · simpa [e] using h2
theorem Gath.add {a b : List S29} {left : Lit → Bool} {us : List Int} (h : Gath a b left us) {y : Int} (hl : left (.int .i64 y) = true) (hy : UnlikeAt a b y) : Gath a b (fun z => left z && !z.sameKey (.int .i64 y)) (us ++ [y]) := by
  refine ⟨?_, fun x => ?_⟩
  · rw [List.nodup_append]
    refine ⟨h.1, by simp, fun a ha b hb => ?_⟩
    simp at hb
    subst hb
    intro e
    subst e
    have := ((h.2 _).1 ha).2
    rw [hl] at this
    cases this
  · rw [List.mem_append, h.2]
    dsimp only
    rw [sameKey_int]
    by_cases e : x = y
    · subst e; simp [hy]
    · simp [e]

set_option maxHeartbeats 4000000 in
set_option maxRecDepth 100000 in
theorem diff_calls (A0 : Option Addr) (c0 : Nat) (l0 : List S29) (A1 : Option Addr) (c1 : Nat) (l1 : List S29) (w : World) (hr0 : Kd.C k29 w A0 l0.length l0) (hc0 : l0.length ≤ c0) (hr1 : Kd.C k29 w A1 l1.length l1) (hc1 : l1.length ≤ c1) (hs0 : Sm l0) (hs1 : Sm l1) :
    Calls Tryd.prog 8 #[.slice A0 l0.length c0, .slice A1 l1.length c1] w fun e w' => ∃ X cx Y cy U cu us, e = .returned (.tuple #[.slice X (onlyK l0 l1 l0.length).length cx, .slice Y (onlyK l1 l0 l1.length).length cy, .slice U us.length cu]) ∧
      ((onlyK l0 l1 l0.length).length ≤ cx ∧ Kd.C k29 w' X (onlyK l0 l1 l0.length).length (onlyK l0 l1 l0.length)) ∧
      ((onlyK l1 l0 l1.length).length ≤ cy ∧ Kd.C k29 w' Y (onlyK l1 l0 l1.length).length (onlyK l1 l0 l1.length)) ∧
      (us.length ≤ cu ∧ Kd.C (Kd.int .i64) w' U us.length us) ∧ (us.Nodup ∧ us.Pairwise (· ≤ ·) ∧ ∀ x, x ∈ us ↔ UnlikeAt l0 l1 x) ∧ Below w.heap.size w w' := by
  have HS0 := Aside0.mk hs0
  have HS1 := Aside0.mk hs1
  have HR0 := Aside0.mk hr0
  have HR1 := Aside0.mk hr1
  clear hr0 hr1 hs0 hs1
  go_enter Tryd.func8, Tryd.ntmps8
  go_wp2_with fail
  refine (counted_calls A1 c1 l1 _ HR1.out hc1 HS1.out.wf).mono ?_
  rintro e w1 ⟨bb, fb, rfl, hbb, hMb, hHb, hB1⟩
  have HMb := Aside0.mk hMb
  have HHb := Aside0.mk hHb
  have HB1 := Aside0.mk hB1
  clear hMb hHb hB1
  go_wp2_with fail
  refine (counted_calls A0 c0 l0 _ (Kd.C_below HR0.out HB1.out) hc0 HS0.out.wf).mono ?_
  rintro e w2 ⟨ba, fa, rfl, hba, hMa, hHa, hB2⟩
  have HMa := Aside0.mk hMa
  have HHa := Aside0.mk hHa
  have HMb2 : Aside0 (MapIs w2 Tryd.prog 3 bb l1.length fb) := ⟨HMb.out.below hB2 HMb.out.lt⟩
  have HB2 : Aside0 (Below w1.heap.size w1 w2) := ⟨hB2⟩
  have hne : bb ≠ ba := fun e => by have := HMb.out.lt; omega
  clear hMa hHa hB2 HMb
  go_wp2_with (first
    | (at_range; refine wp_range _ rfl _ 50 rfl 3 29 law3 Tryd.underlying50 ba l0.length fa rfl HMa.out ?_)
    | fail)
  intro w3 cnt hR hcnt hg3 hs3
  have HMb3 : Aside0 (MapIs w3 Tryd.prog 3 bb l1.length fb) := ⟨HMb2.out.kept hg3 (by simp)⟩
  have HB3 : Aside0 (Below w1.heap.size w1 w3) := ⟨HB2.out.grown hg3 HB2.out.size (fun j hj => by cases hj)⟩
  have HR3 := Aside0.mk hR
  have hr0 : w1.heap.size ≤ w2.heap.size := HB2.out.size
  have hbr : bb < w2.heap.size := HMb2.out.lt
  have har : ba < w2.heap.size := HMa.out.lt
  clear hR hg3 hs3 HMb2 HB2 HMa
  obtain ⟨r, hr⟩ : ∃ r, r = w2.heap.size := ⟨_, rfl⟩
  rw [← hr] at HR3 hr0 hbr har ⊢
  clear hr
  go_wp2_with fail
  go_loopw [6] (fun v wr => ∃ left cnt us, Aside0 (RangeIs wr Tryd.prog 3 ba r l0.length fa left cnt) ∧ Aside0 (MapIs wr Tryd.prog 3 bb l1.length fb) ∧ Aside0 ((Kd.int .i64).R 3 wr w1.heap.size (fun q => q ≠ ba ∧ q ≠ bb ∧ q ≠ r) v us) ∧ Aside0 (Gath l0 l1 left us ∧ us.length + cnt ≤ l0.length) ∧ Aside0 (Below w1.heap.size w1 wr))
    (fun _ wr => wr.rangeLeft ba r)
  case atStart => exact ⟨_, cnt, [], HR3, HMb3, ⟨Kd.R_nil _ _ _ _ _⟩, ⟨Gath.start l0 l1 fa _ HHa.out, by simpa using hcnt⟩, HB3⟩
  case round =>
    obtain ⟨left, cnt, us, HR, HM, HO, HG, HB⟩ := hrel
    go_wp2_with (first
      | (at_next; refine wp_next _ rfl _ rfl 3 law3 ba r l0.length fa left cnt rfl HR.out ?_ ?_)
      | fail)
    · intro hc hl
      go_wp2_with fail
      refine (sort_calls u6 us w1.heap.size _ wr HO.out (by have := HG.out.2; have := HS0.out.1; omega)).mono ?_
      rintro e w5 ⟨rfl, hO5, hg5⟩
      have HB5 : Aside0 (Below w.heap.size w w5) := ⟨HB1.out.trans ((HB.out.grown hg5 HB.out.size (fun j hj => own_base (Kd.own_of_R HO.out) j hj)).mono HB1.out.size)⟩
      have HO5 := Aside0.mk hO5
      have HG5 : Aside0 ((srt us).Nodup ∧ (srt us).Pairwise (· ≤ ·) ∧ ∀ x, x ∈ srt us ↔ UnlikeAt l0 l1 x) := ⟨srt_nodup HG.out.1.1, srt_sorted us, fun x => by rw [mem_srt, HG.out.1.2]; exact ⟨fun h => h.1, fun h => ⟨h, hl _⟩⟩⟩
      clear hO5 hg5 hl hc
      go_wp2_with fail
      refine (only_calls A0 c0 l0 A1 c1 l1 _ (Kd.C_below HR0.out HB5.out) (Kd.C_below HR1.out HB5.out) hc1 HS0.out HS1.out).mono ?_
      rintro e w6 ⟨X, cx, rfl, hx1, hx2, hB6⟩
      have HB6 : Aside0 (Below w.heap.size w w6) := ⟨HB5.out.trans (hB6.mono HB5.out.size)⟩
      replace HO5 : Aside0 _ := ⟨Kd.R_below HO5.out hB6⟩
      replace hx1 := Aside0.mk hx1
      replace hx2 := Aside0.mk hx2
      clear hB6
      go_wp2_with fail
      refine (only_calls A1 c1 l1 A0 c0 l0 _ (Kd.C_below HR1.out HB6.out) (Kd.C_below HR0.out HB6.out) hc0 HS1.out HS0.out).mono ?_
      rintro e w7 ⟨Y, cy, rfl, hy1, hy2, hB7⟩
      have HB7 : Aside0 (Below w.heap.size w w7) := ⟨HB6.out.trans (hB7.mono HB6.out.size)⟩
      replace HO5 : Aside0 _ := ⟨Kd.R_below HO5.out hB7⟩
      replace hx2 := Aside0.mk (Kd.C_below hx2.out hB7)
      replace hy1 := Aside0.mk hy1
      replace hy2 := Aside0.mk hy2
      clear hB7
      obtain ⟨U, cu, rfl, hu1, hu2⟩ := Kd.R_reads HO5.out
      replace hu1 := Aside0.mk hu1
      replace hu2 := Aside0.mk hu2
      go_wp2_with fail
      go_ret3
      exact ⟨X, cx, Y, cy, U, cu, srt us, rfl, ⟨hx1.out, hx2.out⟩, ⟨hy1.out, hy2.out⟩, ⟨hu1.out, hu2.out⟩, HG5.out, HB7.out⟩
    · intro key v kl w4 cnt4 hkey hlk hfv hR4 hlt hg4 hs4 hen
      obtain ⟨x, rfl, rfl, hwx⟩ := Maps.keyOf_int_inv Tryd.underlying3 hkey
      have hx := HHa.out (.int .i64 x)
      rw [hfv] at hx
      obtain ⟨y, p, A, c, hy, hp, rfl, hpc, hpC⟩ := hx
      cases hy
      unfold postV at hen ⊢
      have HR4 := Aside0.mk hR4
      replace hkey := Aside0.mk hkey
      replace hlk := Aside0.mk hlk
      have HM4 : Aside0 (MapIs w4 Tryd.prog 3 bb l1.length fb) := ⟨HM.out.kept hg4 (fun e => by injection e with e; omega)⟩
      have HO4 : Aside0 ((Kd.int .i64).R 3 w4 w1.heap.size (fun q => q ≠ ba ∧ q ≠ bb ∧ q ≠ r) u6 us) := ⟨Kd.R_grown HO.out hg4 (fun q h e => h.2.2 (by injection e))⟩
      have HB4 : Aside0 (Below w1.heap.size w1 w4) := ⟨HB.out.grown hg4 HB.out.size (fun j hj => by injection hj; omega)⟩
      replace hpC := Aside0.mk hpC
      replace hpc := Aside0.mk hpc
      replace hlt := Aside0.mk hlt
      have hm0 := Aside0.mk HR.out.left_eq
      clear hR4 hfv hwx hg4 hs4 HR HM HO HB
      rcases hq : firstOf l1 x with _ | q
      · have hn := Aside0.mk (HHb.out.none_ hq)
        have hno : Aside0 (¬ UnlikeAt l0 l1 x) := ⟨fun ⟨_, q, _, h2, _⟩ => by rw [hq] at h2; cases h2⟩
        replace hq := Aside0.mk hq
        replace hp := Aside0.mk hp
        go_wp2_with (first
          | (at_lookup; refine wp_lookup_ok_none _ rfl _ _ 50 rfl 3 29 law3 Tryd.underlying50 zero29 bb l1.length fb rfl ?hm _ _ rfl hkey.out hn.out ?_)
          | fail)
        case hm => exact HM4.out.alloc _
        go_roundw
        case rel => exact ⟨_, cnt4, us, ⟨(HR4.out.alloc _).alloc _⟩, ⟨(HM4.out.alloc _).alloc _⟩, ⟨Kd.R_alloc (Kd.R_alloc HO4.out _) _⟩, ⟨HG.out.1.stays hno.out, by have := HG.out.2; have := hlt.out; omega⟩, ⟨(HB4.out.alloc HB4.out.size _).alloc (by simp; have := HB4.out.size; omega) _⟩⟩
        case measure => rw [((HR4.out.alloc _).alloc _).left_eq, hm0.out]; exact hlt.out
      · obtain ⟨A9, c9, hv, hc9, hC9⟩ := HHb.out.some_ hq
        unfold postV at hv
        replace hv := Aside0.mk hv
        replace hC9 := Aside0.mk hC9
        replace hc9 := Aside0.mk hc9
        have hpl : p.f2.length ≤ 1000 := (HS0.out.2 p (List.mem_of_find?_eq_some hp)).2
        have hpx : p.f0 = x := by simpa using List.find?_some hp
        replace hpx := Aside0.mk hpx
        replace hpl := Aside0.mk hpl
        by_cases hpq : p = q
        · subst hpq
          have hno : Aside0 (¬ UnlikeAt l0 l1 x) := ⟨fun ⟨p', q', h1, h2, h3⟩ => by rw [hp] at h1; rw [hq] at h2; cases h1; cases h2; exact h3 rfl⟩
          have hlike : Aside0 (match_like.f 1001 p.f0 p.f1 p.f2 p.f0 p.f1 p.f2 = some true) := ⟨by rw [like_f p p (by have := hpl.out; omega) 1001 (by have := hpl.out; omega)]; simp⟩
          replace hq := Aside0.mk hq
          replace hp := Aside0.mk hp
          go_wp2_with (first
            | (at_lookup; refine wp_lookup_ok_some _ rfl _ _ 50 rfl 3 29 law3 Tryd.underlying50 zero29 bb l1.length fb rfl ?hm _ _ rfl hkey.out _ hv.out ?_)
            | fail)
          case hm => exact HM4.out.alloc _
          refine (match_like.calls 1001 _ _ _ _ _ _ _ _ _ _ true _ ?h1 hpc.out ?h2 hc9.out hlike.out).mono ?_
          case h1 => exact Kd.C_below hpC.out ((HB4.out.alloc HB4.out.size _).alloc (by simp; have := HB4.out.size; omega) _)
          case h2 => exact Kd.C_below (Kd.C_below hC9.out HB1.out) ((HB4.out.alloc HB4.out.size _).alloc (by simp; have := HB4.out.size; omega) _)
          rintro e w5 ⟨rfl, hB5⟩
          have q4 : w4.heap.size ≤ w5.heap.size := by have := hB5.size; simp at this; omega
          have HB5 : Aside0 (Below w1.heap.size w1 w5) := ⟨((HB4.out.alloc HB4.out.size _).alloc (by simp; have := HB4.out.size; omega) _).trans (hB5.mono (by simp; have := HB4.out.size; omega))⟩
          have HR5 : Aside0 (RangeIs w5 Tryd.prog 3 ba r l0.length fa (fun z => left z && !z.sameKey (.int .i64 x)) cnt4) := ⟨((HR4.out.alloc _).alloc _).below hB5 (by simp; have := HR4.out.owns.lt; omega) (by simp; have := HR4.out.lt; omega)⟩
          have HM5 : Aside0 (MapIs w5 Tryd.prog 3 bb l1.length fb) := ⟨((HM4.out.alloc _).alloc _).below hB5 (by simp; have := HM4.out.lt; omega)⟩
          have HO5 : Aside0 ((Kd.int .i64).R 3 w5 w1.heap.size (fun q => q ≠ ba ∧ q ≠ bb ∧ q ≠ r) u6 us) := ⟨Kd.R_below (Kd.R_alloc (Kd.R_alloc HO4.out _) _) hB5⟩
          clear hB5
          go_wp2_with fail
          go_roundw
          case rel => exact ⟨_, cnt4, us, HR5, HM5, HO5, ⟨HG.out.1.stays hno.out, by have := HG.out.2; have := hlt.out; omega⟩, HB5⟩
          case measure => rw [HR5.out.left_eq, hm0.out]; exact hlt.out
        · have hno : Aside0 (UnlikeAt l0 l1 x) := ⟨⟨p, q, hp, hq, hpq⟩⟩
          have hlike : Aside0 (match_like.f 1001 p.f0 p.f1 p.f2 q.f0 q.f1 q.f2 = some false) := ⟨by rw [like_f p q (by have := hpl.out; omega) 1001 (by have := hpl.out; omega)]; simp [hpq]⟩
          replace hq := Aside0.mk hq
          replace hp := Aside0.mk hp
          replace hpq := Aside0.mk hpq
          go_wp2_with (first
            | (at_lookup; refine wp_lookup_ok_some _ rfl _ _ 50 rfl 3 29 law3 Tryd.underlying50 zero29 bb l1.length fb rfl ?hm _ _ rfl hkey.out _ hv.out ?_)
            | fail)
          case hm => exact HM4.out.alloc _
          refine (match_like.calls 1001 _ _ _ _ _ _ _ _ _ _ false _ ?h1 hpc.out ?h2 hc9.out hlike.out).mono ?_
          case h1 => exact Kd.C_below hpC.out ((HB4.out.alloc HB4.out.size _).alloc (by simp; have := HB4.out.size; omega) _)
          case h2 => exact Kd.C_below (Kd.C_below hC9.out HB1.out) ((HB4.out.alloc HB4.out.size _).alloc (by simp; have := HB4.out.size; omega) _)
          rintro e w5 ⟨rfl, hB5⟩
          have q4 : w4.heap.size ≤ w5.heap.size := by have := hB5.size; simp at this; omega
          have HB5 : Aside0 (Below w1.heap.size w1 w5) := ⟨((HB4.out.alloc HB4.out.size _).alloc (by simp; have := HB4.out.size; omega) _).trans (hB5.mono (by simp; have := HB4.out.size; omega))⟩
          have HR5 : Aside0 (RangeIs w5 Tryd.prog 3 ba r l0.length fa (fun z => left z && !z.sameKey (.int .i64 x)) cnt4) := ⟨((HR4.out.alloc _).alloc _).below hB5 (by simp; have := HR4.out.owns.lt; omega) (by simp; have := HR4.out.lt; omega)⟩
          have HM5 : Aside0 (MapIs w5 Tryd.prog 3 bb l1.length fb) := ⟨((HM4.out.alloc _).alloc _).below hB5 (by simp; have := HM4.out.lt; omega)⟩
          have HO5 : Aside0 ((Kd.int .i64).R 3 w5 w1.heap.size (fun q => q ≠ ba ∧ q ≠ bb ∧ q ≠ r) u6 us) := ⟨Kd.R_below (Kd.R_alloc (Kd.R_alloc HO4.out _) _) hB5⟩
          clear hB5
          go_wp2_with (at_builtin; refine Kd.R_append (Kd.int .i64) (w0 := w5) w1.heap.size rfl _ _ 30 3 _ 8 rfl Tryd.underlying30 info3 rfl (by decide) (by decide) u6 us x [.int .i64 x] (fun q => q ≠ ba ∧ q ≠ bb ∧ q ≠ r) (fun _ => False) rfl rfl ?hp (fun _ h => h.elim) ?hf ?ho (Below.refl _ _) ?hb ?hl ?_)
          case hp => exact rfl
          case hf => exact fun q hq => ⟨by have := HR4.out.owns.lt; omega, by have := HM4.out.lt; omega, by have := HR4.out.lt; omega⟩
          case ho => exact HO5.out
          case hb => have := HB4.out.size; omega
          case hl => have := HG.out.2; have := HS0.out.1; omega
          intro v6 w6 hO6 _ hg6 _
          have HR6 : Aside0 (RangeIs w6 Tryd.prog 3 ba r l0.length fa (fun z => left z && !z.sameKey (.int .i64 x)) cnt4) := ⟨HR5.out.kept hg6 (fun e => (HO5.out.1 _ e.symm).1 rfl) (fun e => (HO5.out.1 _ e.symm).2.2 rfl)⟩
          have HM6 : Aside0 (MapIs w6 Tryd.prog 3 bb l1.length fb) := ⟨HM5.out.kept hg6 (fun e => (HO5.out.1 _ e.symm).2.1 rfl)⟩
          have HB6 : Aside0 (Below w1.heap.size w1 w6) := ⟨HB5.out.grown hg6 HB5.out.size (fun j hj => own_base (Kd.own_of_R HO5.out) j hj)⟩
          have HO6 := Aside0.mk hO6
          clear hO6 hg6
          go_wp2_with fail
          go_roundw
          case rel => exact ⟨_, cnt4, us ++ [x], HR6, HM6, HO6, ⟨HG.out.1.add hlk.out hno.out, by have := HG.out.2; have := hlt.out; simp; omega⟩, HB6⟩
          case measure => rw [HR6.out.left_eq, hm0.out]; exact hlt.out
end Go.Proofs.YtaogmbiepbhmoaaDoor.A

/- match.Mend: both books together. -/
import Derived.Test.YtaogmbiepbhmoaaDoorCopy
namespace Go.Proofs.YtaogmbiepbhmoaaDoor.A
open Go.RowKit Go.Maps ScKit Go.Proofs.YtaogmbiepbhmoaaDoorW.PrintWords Go.Proofs.YtaogmbiepbhmoaaDoorW.PrintLast Go.Proofs.YtaogmbiepbhmoaaDoorW.PrintMore

/-- The post of a number: a's, else b's. -/
def pick (a b : List S29) (x : Int) : S29 := (firstOf a x).getD ((firstOf b x).getD z29)
/-- The numbers of both. -/
def Both (a b : List S29) (zs : List Int) : Prop := zs.Nodup ∧ zs.Pairwise (· ≤ ·) ∧ ∀ x, x ∈ zs ↔ (firstOf a x).isSome = true ∨ (firstOf b x).isSome = true

theorem Holds1.shaped {W : World} {l : List S29} {f : Lit → Option Value} (h : Holds1 W l f) : Shaped1 f := by
  intro kl v hv
  have := h kl
  rw [hv] at this
  obtain ⟨x, p, A, c, _, _, rfl, _⟩ := this
  exact ⟨p.f0, p.f1, A, p.f2.length, c, rfl⟩
theorem pick_at {W : World} {a b : List S29} {fa fb : Lit → Option Value} (ha : Holds1 W a fa) (hb : Holds1 W b fb) (hsa : Sm a) (hsb : Sm b) {x : Int} (hx : (firstOf a x).isSome = true ∨ (firstOf b x).isSome = true) (z : Value) :
    ∃ A c, ((fa (.int .i64 x)).or (fb (.int .i64 x))).getD z = postV (pick a b x) A c ∧ (pick a b x).f2.length ≤ c ∧ Kd.C k46 W A (pick a b x).f2.length (pick a b x).f2 ∧ (pick a b x).f2.length ≤ 1000 := by
  unfold pick
  rcases h : firstOf a x with _ | p
  · rcases h2 : firstOf b x with _ | q
    · rw [h, h2] at hx; simp at hx
    · obtain ⟨A, c, e, h3, h4⟩ := hb.some_ h2
      exact ⟨A, c, by rw [ha.none_ h, e]; rfl, h3, h4, (hsb.2 q (List.mem_of_find?_eq_some h2)).2⟩
  · obtain ⟨A, c, e, h3, h4⟩ := ha.some_ h
    exact ⟨A, c, by rw [e]; rfl, h3, h4, (hsa.2 p (List.mem_of_find?_eq_some h)).2⟩

set_option maxHeartbeats 4000000 in
set_option maxRecDepth 100000 in
theorem mend_no (A0 : Option Addr) (c0 : Nat) (l0 : List S29) (A1 : Option Addr) (c1 : Nat) (l1 : List S29) (w : World) (hr0 : Kd.C k29 w A0 l0.length l0) (hc0 : l0.length ≤ c0) (hr1 : Kd.C k29 w A1 l1.length l1) (hc1 : l1.length ≤ c1) (hs0 : Sm l0) (hs1 : Sm l1) (hu : ∃ x, UnlikeAt l0 l1 x) :
    Calls Tryd.prog 9 #[.slice A0 l0.length c0, .slice A1 l1.length c1] w fun e w' => e = .returned (.tuple #[.slice none 0 0, .int .i64 15]) ∧ Below w.heap.size w w' := by
  have HS0 := Aside0.mk hs0
  have HS1 := Aside0.mk hs1
  have HR0 := Aside0.mk hr0
  have HR1 := Aside0.mk hr1
  clear hr0 hr1 hs0 hs1
  go_enter Tryd.func9, Tryd.ntmps9
  go_wp2_with fail
  refine (diff_calls A0 c0 l0 A1 c1 l1 _ HR0.out hc0 HR1.out hc1 HS0.out HS1.out).mono ?_
  rintro e w1 ⟨X, cx, Y, cy, U, cu, us, rfl, _, _, _, ⟨_, _, hm⟩, hB1⟩
  have hpos : ¬ us = [] := by
    intro e
    obtain ⟨x, hx⟩ := hu
    have := (hm x).2 hx
    rw [e] at this
    cases this
  have hpos2 : decide (0 < us.length) = true := by
    rw [decide_eq_true_eq]
    exact List.length_pos_iff.2 hpos
  replace hB1 := Aside0.mk hB1
  clear hm hu hpos
  go_wp2_with fail
  go_ret2
  exact ⟨rfl, hB1.out⟩

theorem at_i64 {w : World} {A : Option Addr} {xs : List Int} (h : (Kd.int .i64).C w A xs.length xs) (i : Nat) (hi : i < xs.length) : ∃ ad, A = some ad ∧ w.cell? (ad.add i) = some (.int .i64 (xs.getD i 0)) := by
  obtain ⟨ad, e, h1⟩ := Kd.at_int h (i : Int) (by omega) (by omega)
  exact ⟨ad, e, by simpa [rd] using h1⟩

set_option maxHeartbeats 4000000 in
set_option maxRecDepth 100000 in
theorem mend_yes (A0 : Option Addr) (c0 : Nat) (l0 : List S29) (A1 : Option Addr) (c1 : Nat) (l1 : List S29) (w : World) (hr0 : Kd.C k29 w A0 l0.length l0) (hc0 : l0.length ≤ c0) (hr1 : Kd.C k29 w A1 l1.length l1) (hc1 : l1.length ≤ c1) (hs0 : Sm l0) (hs1 : Sm l1) (hu : ¬ ∃ x, UnlikeAt l0 l1 x) :
    Calls Tryd.prog 9 #[.slice A0 l0.length c0, .slice A1 l1.length c1] w fun e w' => ∃ A c zs, e = .returned (.tuple #[.slice A (zs.map (pick l0 l1)).length c, .int .i64 0]) ∧ (zs.map (pick l0 l1)).length ≤ c ∧ Kd.C k29 w' A (zs.map (pick l0 l1)).length (zs.map (pick l0 l1)) ∧ (Both l0 l1 zs ∧ zs.length ≤ l0.length + l1.length) ∧ Below w.heap.size w w' := by
  have HS0 := Aside0.mk hs0
  have HS1 := Aside0.mk hs1
  have HR0 := Aside0.mk hr0
  have HR1 := Aside0.mk hr1
  clear hr0 hr1 hs0 hs1
  go_enter Tryd.func9, Tryd.ntmps9
  go_wp2_with fail
  refine (diff_calls A0 c0 l0 A1 c1 l1 _ HR0.out hc0 HR1.out hc1 HS0.out HS1.out).mono ?_
  rintro e w1 ⟨X, cx, Y, cy, U, cu, us, rfl, _, _, _, ⟨_, _, hm⟩, hB1⟩
  obtain rfl : us = [] := by
    rcases us with _ | ⟨x, us⟩
    · rfl
    · exact absurd ⟨x, (hm x).1 List.mem_cons_self⟩ hu
  replace hB1 := Aside0.mk hB1
  clear hm hu
  go_wp2_with fail
  refine (counted_calls_at A1 c1 l1 w w1 hB1.out HR1.out hc1 HS1.out.wf).mono ?_
  rintro e w2 ⟨bb, fb, rfl, hbb, hMb, hHb, hB2⟩
  replace hMb := Aside0.mk hMb
  replace hHb := Aside0.mk hHb
  have HB2 : Aside0 (Below w.heap.size w w2) := ⟨hB1.out.trans (hB2.mono hB1.out.size)⟩
  clear hB2
  go_wp2_with fail
  refine (counted_calls_at A0 c0 l0 w w2 HB2.out HR0.out hc0 HS0.out.wf).mono ?_
  rintro e w3 ⟨ba, fa, rfl, hba, hMa, hHa, hB3⟩
  replace hMa := Aside0.mk hMa
  replace hHa := Aside0.mk hHa
  have hMb3 : Aside0 (MapIs w3 Tryd.prog 3 bb l1.length fb) := ⟨hMb.out.below hB3 hMb.out.lt⟩
  have hne : bb ≠ ba := by have := hMb.out.lt; omega
  have hbw : w.heap.size ≤ bb := by have := hB1.out.size; omega
  have HB3 : Aside0 (Below w.heap.size w w3) := ⟨HB2.out.trans (hB3.mono HB2.out.size)⟩
  clear hB3 hMb
  go_wp2_with fail
  refine (copy_calls bb l1.length fb ba l0.length fa w3 hMb3.out hMa.out hne hHa.out.shaped (by have := HS0.out.1; have := HS1.out.1; omega)).mono ?_
  rintro e w4 ⟨rfl, hM4, hg4⟩
  replace hM4 := Aside0.mk hM4
  have HB4 : Aside0 (Below w.heap.size w w4) := ⟨HB3.out.grown hg4 HB3.out.size (fun j hj => by injection hj; omega)⟩
  clear hg4 hMa hMb3
  go_wp2_with fail
  refine (keys_calls _ _).mono ?_
  rintro e w5 ⟨rfl, rfl⟩
  go_wp2_with fail
  refine (sortedKeys_calls bb (l1.length + l0.length) _ w4 hM4.out (by have := HS0.out.1; have := HS1.out.1; omega)).mono ?_
  rintro e w5 ⟨v, zs, rfl, hz, hzl, ⟨hz1, hz2, hz3⟩, hB5⟩
  obtain ⟨Z, cz, rfl, hzc, hzC⟩ := Kd.R_reads hz
  have HZ : Aside0 (Both l0 l1 zs) := ⟨hz1, hz2, fun x => by
    rw [hz3]
    rcases h : firstOf l0 x with _ | p
    · rw [hHa.out.none_ h]
      rcases h2 : firstOf l1 x with _ | q
      · rw [hHb.out.none_ h2]; simp
      · obtain ⟨A, c, e, _⟩ := hHb.out.some_ h2
        rw [e]; simp
    · obtain ⟨A, c, e, _⟩ := hHa.out.some_ h
      rw [e]; simp⟩
  have HB5 : Aside0 (Below w.heap.size w w5) := ⟨(HB4.out.alloc HB4.out.size _).trans (hB5.mono (by have := HB4.out.size; omega))⟩
  have HM5 : Aside0 (MapIs w5 Tryd.prog 3 bb (l1.length + l0.length) (fun kl => (fa kl).or (fb kl))) := ⟨(hM4.out.alloc _).below hB5 (by have := hM4.out.lt; omega)⟩
  have hzl2 : zs.length ≤ 2000 := by have := HS0.out.1; have := HS1.out.1; omega
  replace hzC := Aside0.mk hzC
  replace hzl := Aside0.mk hzl
  clear hz hz1 hz2 hz3 hB5 hM4 hzc
  go_wp2_with fail
  go_loopw [33, 10] (fun i v wr => ∃ k : Nat, k ≤ zs.length ∧ i = .int .i64 k ∧ Aside0 (Kd.N k29 29 wr w5.heap.size (fun _ => True) v ((zs.take k).map (pick l0 l1))) ∧ Aside0 (Below w5.heap.size w5 wr))
    (fun i _ _ => zs.length - (intOf i).toNat)
  case atStart => exact ⟨0, Nat.zero_le _, rfl, ⟨Kd.N_nil _ _ _ _ _⟩, ⟨Below.refl _ _⟩⟩
  case round =>
    obtain ⟨k, hk, rfl, HO, HB⟩ := hrel
    by_cases hlt : k < zs.length
    · obtain ⟨ad, e, h1⟩ := at_i64 hzC.out k hlt
      replace h1 := cellB HB.out h1
      have hx : zs.getD k 0 ∈ zs := by rw [List.getD_eq_getElem?_getD, List.getElem?_eq_getElem hlt]; exact List.getElem_mem hlt
      obtain ⟨x, hxd⟩ : ∃ x, x = zs.getD k 0 := ⟨_, rfl⟩
      rw [← hxd] at h1 hx
      have hxd2 : Aside0 ((zs.take (k + 1)).map (pick l0 l1) = (zs.take k).map (pick l0 l1) ++ [pick l0 l1 x]) := ⟨by rw [List.take_succ_eq_append_getElem hlt, List.map_append, hxd]; simp [hlt]⟩
      have hxb := (HZ.out.2.2 x).1 hx
      have hxw : (Lit.int .i64 x).wf = true := by
        rcases hxb with h | h
        · obtain ⟨p, hp⟩ := Option.isSome_iff_exists.1 h
          have h2 := List.find?_some hp
          simp at h2
          rw [← h2]; exact (HS0.out.2 p (List.mem_of_find?_eq_some hp)).1
        · obtain ⟨p, hp⟩ := Option.isSome_iff_exists.1 h
          have h2 := List.find?_some hp
          simp at h2
          rw [← h2]; exact (HS1.out.2 p (List.mem_of_find?_eq_some hp)).1
      obtain ⟨A, c, hv, hp1, hp2, hp3⟩ := pick_at hHa.out hHb.out HS0.out HS1.out hxb (.agg #[.int .i64 0, .string ⟨#[]⟩, .slice none 0 0])
      have hkey := Aside0.mk (keyOf_int_mk (P := Tryd.prog) (k := 3) Tryd.underlying3 hxw)
      replace hv := Aside0.mk hv
      replace hp1 := Aside0.mk hp1
      replace hp2 := Aside0.mk hp2
      replace hp3 := Aside0.mk hp3
      clear hx hxd hxb hxw
      cases e
      go_wp2_with (first
        | (at_lookup; refine wp_lookup_some _ (wanted_of_none rfl) _ _ 50 rfl 3 29 law3 Tryd.underlying50 zero29 bb (l1.length + l0.length) (fun kl => (fa kl).or (fb kl)) rfl ?hm _ _ rfl hkey.out _ hv.out ?_)
        | fail)
      case hm => exact HM5.out.below HB.out HM5.out.lt
      have HBB : Aside0 (Below w.heap.size w wr) := ⟨HB5.out.trans (HB.out.mono HB5.out.size)⟩
      refine (own_calls (pick l0 l1 x) A c _ (Kd.C_below hp2.out HBB.out) hp1.out hp3.out).mono ?_
      rintro e w6 ⟨A3, c3, rfl, q1, q2, q3⟩
      unfold postV
      replace q1 := Aside0.mk q1
      replace q2 := Aside0.mk q2
      replace q3 := Aside0.mk q3
      go_wp2_with (at_builtin; refine Kd.N_append k29 (w0 := w6) w5.heap.size rfl _ _ 22 29 _ 48 rfl Tryd.underlying22 info29 rfl (by decide) (by decide) u10 ((zs.take k).map (pick l0 l1)) (pick l0 l1 x) _ (fun _ => True) (fun q => wr.heap.size ≤ q) rfl rfl ?hp ?hokp ?hf ?ho (Below.refl _ _) ?hb ?hl ?_)
      case hp => exact k29_mkF _ _ _ q1.out q2.out
      case hokp => exact fun q hq => ⟨trivial, fun e => by have := Kd.N_lt HO.out q e.symm; omega⟩
      case hf => exact fun q hq => trivial
      case ho => exact Kd.N_below HO.out q3.out
      case hb => exact Nat.le_trans HB.out.size q3.out.size
      case hl => simp; omega
      intro v1 w7 hN _ hg _
      have hN : Aside0 (Kd.N k29 29 w7 w5.heap.size (fun _ => True) v1 ((zs.take (k + 1)).map (pick l0 l1))) := ⟨by rw [hxd2.out, List.map_take]; exact hN⟩
      have HB7 : Aside0 (Below w5.heap.size w5 w7) := ⟨(HB.out.trans (q3.out.mono HB.out.size)).grown hg (Nat.le_trans HB.out.size q3.out.size) (fun j hj => Kd.N_base HO.out j hj)⟩
      clear hg
      go_wp2_with fail
      go_roundw
      case rel => exact ⟨k + 1, by omega, by go_num, hN, HB7⟩
      case measure => simp [intOf]; omega
    · obtain rfl : k = zs.length := by omega
      have hN : Aside0 (Kd.N k29 29 wr w5.heap.size (fun _ => True) u10 (zs.map (pick l0 l1))) := ⟨by have := HO.out; rwa [List.take_length] at this⟩
      obtain ⟨A, c, rfl, q1, q2⟩ := Kd.N_reads hN.out
      replace q1 := Aside0.mk q1
      replace q2 := Aside0.mk q2
      have HBB : Aside0 (Below w.heap.size w wr) := ⟨HB5.out.trans (HB.out.mono HB5.out.size)⟩
      go_wp2_with fail
      go_ret2
      exact ⟨A, c, zs, rfl, q1.out, q2.out, ⟨HZ.out, by have := hzl.out; omega⟩, HBB.out⟩
end Go.Proofs.YtaogmbiepbhmoaaDoor.A

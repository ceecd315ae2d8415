/- slices.Clone of entries, and match.own: a post in memory of its own. -/
import Derived.Test.YtaogmbiepbhmoaaDoorCounted
import Derived.WalkSpells
namespace Go.Proofs.YtaogmbiepbhmoaaDoor.A
open Go.RowKit Go.Maps ScKit Go.Proofs.YtaogmbiepbhmoaaDoorW.PrintWords Go.Proofs.YtaogmbiepbhmoaaDoorW.PrintLast Go.Proofs.YtaogmbiepbhmoaaDoorW.PrintMore

theorem info29 : (Tryd.prog.info? 29).map (fun i => (i.zero, i.size, i.bytes)) = some (some (.agg #[(.int .i64 0), (.string ⟨#[]⟩), (.slice none 0 0)]), 3, 48) := by kernel_rfl
theorem info46 : (Tryd.prog.info? 46).map (fun i => (i.zero, i.size, i.bytes)) = some (some (.agg #[(.string ⟨#[]⟩), (.string ⟨#[]⟩), (.int .i64 0)]), 3, 40) := by kernel_rfl

theorem R_lit0 {α : Type} (d : Kd α) (w : World) (e : TypeId) : d.R e (w.alloc (.cells #[] e)) w.heap.size (fun k => w.heap.size ≤ k) (.slice (some ⟨w.heap.size, 0, none⟩) 0 0) [] := by
  refine ⟨fun k hk => ?_, [], ?_, Reps.none _ _⟩
  · have : w.heap.size = k := by simpa [Value.ownBlock] using hk
    omega
  · exact World.ownsRow_lit (base := w.heap.size) (e := e) (size := d.sz) w #[] 0 (Nat.le_refl _) (Nat.zero_le _) (by simp)

set_option maxHeartbeats 1000000 in
set_option maxRecDepth 100000 in
theorem clone_calls (A : Option Addr) (c : Nat) (l : List S46) (w : World) (hr : Kd.C k46 w A l.length l) (_hc : l.length ≤ c) (hs : l.length ≤ 1000) :
    Calls Tryd.prog 31 #[.slice A l.length c] w fun e w' => ∃ A' c', e = .returned (.slice A' l.length c') ∧ l.length ≤ c' ∧ Kd.F k46 w' (fun k => w.heap.size ≤ k) A' l.length l ∧ Below w.heap.size w w' := by
  have HR := Aside0.mk hr
  clear hr
  rcases A with _ | ad
  · have hl : l = [] := by
      rcases l with _ | ⟨x, l⟩
      · rfl
      · obtain ⟨ad, h, _⟩ := HR.out.2.2 (by simp)
        cases h
    subst hl
    clear HR
    have hnil := fun (w : World) => Lib.run_eql_slice_nil (P := Tryd.prog) w 27 46 none 0 c 0 0 Tryd.underlying27
    go_enter Tryd.func31, Tryd.ntmps31
    go_wp2
    go_ret
    exact ⟨none, 0, rfl, Nat.le_refl _, Kd.F_nil _ _ _, Below.refl _ _⟩
  · have hnil := fun (w : World) => Lib.run_eql_slice_nil (P := Tryd.prog) w 27 46 (some ad) l.length c 0 0 Tryd.underlying27
    go_enter Tryd.func31, Tryd.ntmps31
    go_wp2_with (at_builtin; refine Kd.R_append_rows k46 (Rr := k46.K w) (w0 := w) w.heap.size rfl _ _ 27 46 _ 40 rfl Tryd.underlying27 info46 rfl (by decide) (by decide) _ ([] : List S46) l (some ad) l.length c (fun k => w.heap.size ≤ k) (fun _ => False) rfl rfl ?ho ?hr (fun x cs h => ?hm) (fun _ h => h.elim) ?hf ?hb ?hs ?hl ?_)
    case ho => exact R_lit0 k46 w 46
    case hr => exact Kd.C_below HR.out ((Below.refl _ _).alloc (Nat.le_refl _) _)
    case hm => rw [k46_open h]; exact k46_mkM _ _ _ _
    case hf => intro k hk; simp at hk; omega
    case hb => exact (Below.refl _ _).alloc (Nat.le_refl _) _
    case hs => simp
    case hl => simp; omega
    intro v1 w1 h1 h2 _ _
    obtain ⟨A', c', rfl, h3, _⟩ := Kd.R_reads h1
    have h1 := Aside0.mk h1
    have h2 := Aside0.mk h2
    have h3 := Aside0.mk h3
    go_wp2
    go_ret
    exact ⟨A', c', rfl, h3.out, Kd.R_F h1.out, h2.out⟩

set_option maxHeartbeats 1000000 in
set_option maxRecDepth 100000 in
theorem own_calls (p : S29) (A : Option Addr) (c : Nat) (w : World) (hr : Kd.C k46 w A p.f2.length p.f2) (hc : p.f2.length ≤ c) (hs : p.f2.length ≤ 1000) :
    Calls Tryd.prog 22 #[postV p A c] w fun e w' => ∃ A' c', e = .returned (postV p A' c') ∧ p.f2.length ≤ c' ∧ Kd.F k46 w' (fun k => w.heap.size ≤ k) A' p.f2.length p.f2 ∧ Below w.heap.size w w' := by
  have HR := Aside0.mk hr
  clear hr
  unfold postV
  go_enter Tryd.func22, Tryd.ntmps22
  go_wp2_with fail
  refine (clone_calls A c p.f2 _ ?hr hc hs).mono ?_
  case hr => exact Kd.C_below HR.out (((Below.refl _ _).alloc (Nat.le_refl _) _).alloc (by simp) _)
  rintro e w1 ⟨A', c', rfl, h1, h2, h3⟩
  have h1 := Aside0.mk h1
  have h2 := Aside0.mk h2
  have h3 := Aside0.mk h3
  obtain ⟨a0, a1, a2, _, _, f2⟩ := box3 (blk_below (blk_alloc (blk_new w _) _) h3.out)
  obtain ⟨b0, b1, b2, g0, g1, g2⟩ := box3 (blk_below (blk_new (w.alloc _) _) h3.out)
  simp only [World.size_alloc] at b0 b1 b2 g0 g1 g2
  have hz : w.heap.size + 1 < w1.heap.size := by have := h3.out.size; simp at this; omega
  go_wp2_with fail
  refine bodyPost_ret (v := .agg #[.int .i64 p.f0, .string p.f1, .slice A' p.f2.length c']) ?_ rfl ?_
  · simp [results, Tryd.results22, go_sem, b0, b1, b2]
  · refine ⟨A', c', rfl, h1.out, ?_, ?_⟩
    · have hF := h2.out
      simp only [World.size_alloc] at hF
      refine Kd.F_mono ?_ (fun k (hk : w.heap.size + 1 + 1 ≤ k) => (by omega : w.heap.size ≤ k))
      repeat (refine Kd.F_far ?_ (fun k hk => by simp; omega) _)
      exact hF
    · have hB := h3.out
      repeat (refine below_set ?_ (by omega))
      exact ((((Below.refl _ _).alloc (Nat.le_refl _) _).alloc (by simp) _).trans (hB.mono (by simp; omega)))
end Go.Proofs.YtaogmbiepbhmoaaDoor.A
/- maps.Copy at maps of posts. -/
import Derived.Test.YtaogmbiepbhmoaaDoorDiff
namespace Go.Proofs.YtaogmbiepbhmoaaDoor.A
open Go.RowKit Go.Maps ScKit Go.Proofs.YtaogmbiepbhmoaaDoorW.PrintWords Go.Proofs.YtaogmbiepbhmoaaDoorW.PrintLast Go.Proofs.YtaogmbiepbhmoaaDoorW.PrintMore

/-- fs laid over fd, but for the keys still to come. -/
def over (fd fs : Lit → Option Value) (left : Lit → Bool) (kl : Lit) : Option Value := (fs kl).elim (fd kl) (fun v => bif left kl then fd kl else some v)

theorem over_start (fd fs : Lit → Option Value) (kl : Lit) : fd kl = over fd fs (fun kl => (fs kl).isSome) kl := by
  unfold over
  rcases h : fs kl with _ | v <;> simp [h]
theorem over_end {fd fs : Lit → Option Value} {left : Lit → Bool} (h : ∀ kl, left kl = false) (kl : Lit) : over fd fs left kl = (fs kl).or (fd kl) := by
  unfold over
  rw [h]
  cases fs kl <;> simp
theorem over_step {fd fs : Lit → Option Value} {left : Lit → Bool} {y : Lit} {v : Value} (hk : WideAt.IsKeyLit y) (hv : fs y = some v) (kl : Lit) : upd (over fd fs left) y v kl = over fd fs (fun z => left z && !z.sameKey y) kl := by
  unfold over upd
  by_cases e : kl = y
  · subst e
    simp only [if_pos, hv, WideAt.sameKey_self hk]
    simp
  · simp only [if_neg e, Maps.sameKey_ne e]
    simp

/-- Every element has a post's shape. -/
def Shaped1 (f : Lit → Option Value) : Prop := ∀ kl v, f kl = some v → ∃ x s A n c, v = .agg #[.int .i64 x, .string s, .slice A n c]

set_option maxHeartbeats 2000000 in
set_option maxRecDepth 100000 in
theorem copy_calls (bd nd : Nat) (fd : Lit → Option Value) (bs ns : Nat) (fs : Lit → Option Value) (w : World) (hd : MapIs w Tryd.prog 3 bd nd fd) (hs : MapIs w Tryd.prog 3 bs ns fs) (hne : bd ≠ bs) (hsh : Shaped1 fs) (hn : nd + ns < 1000000) :
    Calls Tryd.prog 19 #[.map (some bd), .map (some bs)] w fun e w' => e = .returned (.tuple #[]) ∧ MapIs w' Tryd.prog 3 bd (nd + ns) (fun kl => (fs kl).or (fd kl)) ∧ w.grownBy w' (some bd) := by
  have HD := Aside0.mk hd
  have HS := Aside0.mk hs
  replace hsh := Aside0.mk hsh
  clear hd hs
  go_enter Tryd.func19, Tryd.ntmps19
  go_wp2_with (first
    | (at_range; refine wp_range _ rfl _ 50 rfl 3 29 law3 Tryd.underlying50 bs ns fs rfl HS.out ?_)
    | fail)
  intro w1 cnt hR hcnt hg1 hs1
  have HR := Aside0.mk hR
  have HM : Aside0 (MapIs w1 Tryd.prog 3 bd nd fd) := ⟨HD.out.kept hg1 (by simp)⟩
  have HG : Aside0 (w.grownBy w1 (some bd)) := ⟨hg1.but _⟩
  have hdl : bd < w.heap.size := HD.out.lt
  clear hR hg1 hs1
  obtain ⟨r, hr⟩ : ∃ r, r = w.heap.size := ⟨_, rfl⟩
  rw [← hr] at HR ⊢
  have hrl : w.heap.size ≤ r := Nat.le_of_eq hr.symm
  have hdr : bd < r := by omega
  clear hr
  go_wp2_with fail
  go_loopw [8] (fun _ wr => ∃ left cnt m, Aside0 (RangeIs wr Tryd.prog 3 bs r ns fs left cnt) ∧ Aside0 (MapIs wr Tryd.prog 3 bd m (over fd fs left)) ∧ Aside0 (m + cnt ≤ nd + ns) ∧ Aside0 (w.grownBy wr (some bd)))
    (fun _ wr => wr.rangeLeft bs r)
  case atStart => exact ⟨_, cnt, nd, HR, ⟨HM.out.congr (over_start fd fs)⟩, ⟨by omega⟩, HG⟩
  case round =>
    obtain ⟨left, cnt, m, HR, HM, HC, HG⟩ := hrel
    have hm0 := Aside0.mk HR.out.left_eq
    go_wp2_with (first
      | (at_next; refine wp_next _ rfl _ rfl 3 law3 bs r ns fs left cnt rfl HR.out ?_ ?_)
      | fail)
    · intro hc hl
      go_wp2_with fail
      go_end0
      exact ⟨rfl, (HM.out.congr (over_end hl)).mono (by have := HC.out; omega), HG.out⟩
    · intro key v kl w4 cnt4 hkey hlk hfv hR4 hlt hg4 hs4 hen
      obtain ⟨x, rfl, rfl, hwx⟩ := Maps.keyOf_int_inv Tryd.underlying3 hkey
      obtain ⟨x1, s, A, n, c, rfl⟩ := hsh.out _ _ hfv
      replace HR4 := Aside0.mk hR4
      replace hkey := Aside0.mk hkey
      replace hfv := Aside0.mk hfv
      replace hlt := Aside0.mk hlt
      have HM4 : Aside0 (MapIs w4 Tryd.prog 3 bd m (over fd fs left)) := ⟨HM.out.kept hg4 (fun e => by injection e with e; omega)⟩
      have HG4 : Aside0 (w.grownBy w4 (some bd)) := ⟨HG.out.andThen hg4 (fun j hj => by injection hj with hj; left; omega)⟩
      clear hR4 hlk hwx hg4 hs4 HM HG
      go_wp2_with (first
        | (at_mapUpdate; refine wp_update _ rfl _ _ _ 50 rfl 3 29 law3 Tryd.underlying50 bd m (over fd fs left) rfl ?hm ?hn _ _ _ rfl rfl hkey.out ?_)
        | fail)
      case hm => exact HM4.out.alloc _
      case hn => unfold maxLen; have := HC.out; omega
      intro w5 hM5 hg5
      have HM5 : Aside0 (MapIs w5 Tryd.prog 3 bd (m + 1) (over fd fs (fun z => left z && !z.sameKey (.int .i64 x)))) := ⟨hM5.congr (over_step (law3.key hkey.out) hfv.out)⟩
      have HR5 : Aside0 (RangeIs w5 Tryd.prog 3 bs r ns fs (fun z => left z && !z.sameKey (.int .i64 x)) cnt4) := ⟨(HR4.out.alloc _).kept hg5 (fun e => by injection e with e; exact hne e.symm) (fun e => by injection e with e; omega)⟩
      have HG5 : Aside0 (w.grownBy w5 (some bd)) := ⟨(HG4.out.andThen (World.grownBy_alloc _ _ none) (fun j hj => by cases hj)).andThen hg5 (fun j hj => .inr hj)⟩
      clear hM5 hg5
      go_wp2_with fail
      go_roundw
      case rel => exact ⟨_, cnt4, m + 1, HR5, HM5, ⟨by have := HC.out; have := hlt.out; omega⟩, HG5⟩
      case measure => rw [HR5.out.left_eq, hm0.out]; exact hlt.out
end Go.Proofs.YtaogmbiepbhmoaaDoor.A

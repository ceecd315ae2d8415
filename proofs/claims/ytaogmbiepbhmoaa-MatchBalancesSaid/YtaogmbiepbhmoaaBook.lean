/- Ledger.book walked. -/
import Derived.Test.YtaogmbiepbhmoaaWrong
import Derived.Test.YtaogmbiepbhmoaaClone
namespace Go.Proofs.Ytaogmbiepbhmoaa.A
open Go.RowKit Go.Lib Go.Maps ScKit Go.Proofs.YtaogmbiepbhmoaaW.PrintWords Go.Proofs.YtaogmbiepbhmoaaW.PrintLast Go.Proofs.YtaogmbiepbhmoaaW.PrintMore
set_option linter.unusedVariables false
set_option linter.unusedSimpArgs false

def ledBook.T4 : Bool × List (List Nat × List Nat) := (true, [([], []), ([0], [0]), ([1], [1]), ([2], [2]), ([], []), ([3, 4], [3, 4]), ([], []), ([6, 5, 0, 1, 2, 3, 4, 5, 6], [5, 6])])
def ledBook.B4 : List Nat := [0, 1, 3, 7, 0, 31, 0, 127]
theorem ledBook.tab4 : rtab .any (opsOf Try.f36 4) = ledBook.T4 := by kernel_rfl
theorem ledBook.bits4 : waitsOk ledBook.T4.2 ledBook.B4 = true := by kernel_rfl
def ledBook.T6 : Bool × List (List Nat × List Nat) := (true, [([], []), ([0], [0]), ([1], [1]), ([2], [2]), ([], []), ([], []), ([3, 4, 5, 0, 1, 2, 3, 4, 5], [3, 4, 5])])
def ledBook.B6 : List Nat := [0, 1, 3, 7, 0, 0, 63]
theorem ledBook.tab6 : rtab .any (opsOf Try.f36 6) = ledBook.T6 := by kernel_rfl
theorem ledBook.bits6 : waitsOk ledBook.T6.2 ledBook.B6 = true := by kernel_rfl
def ledBook.T7 : Bool × List (List Nat × List Nat) := (true, [([], []), ([0], [0]), ([1], [1]), ([2], [2]), ([3], [3]), ([4], [4]), ([], []), ([], []), ([7], [7]), ([5, 6, 8], [5, 6, 8]), ([], []), ([10, 9, 8, 0, 1, 2, 3, 4, 5, 6, 7, 8, 9, 10], [9, 10])])
def ledBook.B7 : List Nat := [0, 1, 3, 7, 15, 31, 0, 0, 128, 511, 0, 2047]
theorem ledBook.tab7 : rtab .any (opsOf Try.f36 7) = ledBook.T7 := by kernel_rfl
theorem ledBook.bits7 : waitsOk ledBook.T7.2 ledBook.B7 = true := by kernel_rfl
def ledBook.T8 : Bool × List (List Nat × List Nat) := (true, [([], []), ([], []), ([1], [1]), ([2], [2]), ([3], [3]), ([], []), ([5], [5]), ([4, 6], [4, 6]), ([0, 0, 1, 2, 3, 4, 5, 6, 7], [0]), ([8, 0, 1, 2, 3, 4, 5, 6, 7], [8]), ([9, 7, 7, 0, 1, 2, 3, 4, 5, 6, 7], [7, 9])])
def ledBook.B8 : List Nat := [0, 0, 2, 6, 14, 0, 32, 126, 255, 511, 1023]
theorem ledBook.tab8 : rtab .any (opsOf Try.f36 8) = ledBook.T8 := by kernel_rfl
theorem ledBook.bits8 : waitsOk ledBook.T8.2 ledBook.B8 = true := by kernel_rfl

/-- What a payment of x changes: by key. -/
noncomputable def chF (k1 k2 : Lit) (x : Int) : Lit → Option Value := upd (upd (fun _ => none) k1 (.int .i64 (-x))) k2 (.int .i64 x)
/-- The accounts behind it. -/
noncomputable def newF (f : Lit → Option Value) (k1 k2 : Lit) (fl1 bal1 fl2 bal2 x : Int) : Lit → Option Value := upd (upd f k1 (acct fl1 (bal1 - x))) k2 (acct fl2 (bal2 + x))
/-- A payment that may be. -/
structure Pay (f : Lit → Option Value) (n1 n2 : ByteArray) (k1 k2 : Lit) (fl1 bal1 fl2 bal2 x : Int) : Prop where
  h1 : keyOf Try.prog 75 (kv n1 EUR) = some k1
  h2 : keyOf Try.prog 75 (kv n2 EUR) = some k2
  ne : k1 ≠ k2
  f1 : f k1 = some (acct fl1 bal1)
  f2 : f k2 = some (acct fl2 bal2)
  x0 : 1 ≤ x
  x1 : x ≤ 1099511627776
  a1 : -1099511627776 ≤ fl1 ∧ fl1 ≤ 0 ∧ fl1 ≤ bal1 - x ∧ bal1 ≤ 1099511627776
  a2 : -1099511627776 ≤ fl2 ∧ fl2 ≤ 0 ∧ fl2 ≤ bal2 ∧ bal2 + x ≤ 1099511627776
section
variable {f : Lit → Option Value} {n1 n2 : ByteArray} {k1 k2 : Lit} {fl1 bal1 fl2 bal2 x : Int} (h : Pay f n1 n2 k1 k2 fl1 bal1 fl2 bal2 x)
include h
theorem pay_at {key v : Value} {kl : Lit} (hkey : keyOf Try.prog 75 key = some kl) (hv : chF k1 k2 x kl = some v) :
    ∃ nk xk fl bal, key = .agg #[.string nk, .string EUR] ∧ v = .int .i64 xk ∧ f kl = some (.agg #[.int .i64 fl, .int .i64 bal, .int .i64 0]) ∧ newF f k1 k2 fl1 bal1 fl2 bal2 x kl = some (.agg #[.int .i64 fl, .int .i64 (bal + xk), .int .i64 0]) ∧
      -1099511627776 ≤ fl ∧ fl ≤ 0 ∧ fl ≤ bal ∧ bal ≤ 1099511627776 ∧ fl ≤ bal + xk ∧ bal + xk ≤ 1099511627776 ∧ -1099511627776 ≤ xk ∧ xk ≤ 1099511627776 := by
  have hx0 := h.x0; have hx1 := h.x1; obtain ⟨p1, p2, p3, p4⟩ := h.a1; obtain ⟨q1, q2, q3, q4⟩ := h.a2
  unfold chF at hv
  by_cases e2 : kl = k2
  · subst e2
    rw [upd_same] at hv
    refine ⟨n2, x, fl2, bal2, law75.inj hkey h.h2, (Option.some.inj hv).symm, h.f2, ?_, by omega, by omega, by omega, by omega, by omega, by omega, by omega, by omega⟩
    unfold newF; rw [upd_same]; rfl
  · rw [upd_ne _ _ e2] at hv
    by_cases e1 : kl = k1
    · subst e1
      rw [upd_same] at hv
      refine ⟨n1, -x, fl1, bal1, law75.inj hkey h.h1, (Option.some.inj hv).symm, h.f1, ?_, by omega, by omega, by omega, by omega, by omega, by omega, by omega, by omega⟩
      unfold newF; rw [upd_ne _ _ e2, upd_same]; rfl
    · rw [upd_ne _ _ e1] at hv; cases hv
end
theorem clone2 (n1 n2 : ByteArray) (x : Int) (X : Option Addr) (cx : Nat) (hcx : 2 ≤ cx) (w : World) (hX : Kd.C k54 w X 2 (ents n1 n2 x)) :
    Calls Try.prog 44 #[.slice X 2 cx] w fun e w' => ∃ A' c', e = .returned (.slice A' 2 c') ∧ Below w.heap.size w w' :=
  (clone_calls X cx (ents n1 n2 x) w hX hcx (show (2 : Nat) ≤ 1000 by decide)).mono fun _ _ ⟨A', c', h1, _, _, h4⟩ => ⟨A', c', h1, h4⟩
/-- The accounts while the changes are booked: those whose turn is still to come stand as they did. -/
noncomputable def mixF (f g : Lit → Option Value) (left : Lit → Bool) : Lit → Option Value := fun kl => if left kl = true then f kl else g kl
theorem mix_start (f : Lit → Option Value) (k1 k2 : Lit) (fl1 bal1 fl2 bal2 x : Int) : mixF f (newF f k1 k2 fl1 bal1 fl2 bal2 x) (fun kl => (chF k1 k2 x kl).isSome) = f := by
  funext kl
  unfold mixF
  split
  · rfl
  · rename_i h
    replace h : ¬ (chF k1 k2 x kl).isSome = true := h
    unfold chF at h
    by_cases e2 : kl = k2
    · subst e2; rw [upd_same] at h; exact absurd rfl h
    · rw [upd_ne _ _ e2] at h
      by_cases e1 : kl = k1
      · subst e1; rw [upd_same] at h; exact absurd rfl h
      · unfold newF; rw [upd_ne _ _ e2, upd_ne _ _ e1]
theorem mix_step (f g : Lit → Option Value) (left : Lit → Bool) {kl : Lit} (hk : WideAt.IsKeyLit kl) {v : Value} (hg : g kl = some v) : upd (mixF f g left) kl v = mixF f g (fun z => left z && !z.sameKey kl) := by
  funext z
  by_cases e : z = kl
  · subst e
    rw [upd_same]
    unfold mixF
    show some v = if (left z && !z.sameKey z) = true then f z else g z
    rw [WideAt.sameKey_self hk]
    simp [hg]
  · rw [upd_ne _ _ e]
    show (if left z = true then f z else g z) = if (left z && !z.sameKey kl) = true then f z else g z
    rw [Maps.sameKey_ne e]
    simp
theorem mix_end (f g : Lit → Option Value) {left : Lit → Bool} (h : ∀ kl, left kl = false) : mixF f g left = g := by
  funext kl; unfold mixF; rw [h]; simp

set_option maxHeartbeats 8000000 in
set_option maxRecDepth 100000 in
theorem book_calls {w : World} {B p m N n : Nat} {v : Value} {f : Lit → Option Value} (hL : Led w B p m N v n f) (hn : n < 1000) (hN : N < 500) (text : ByteArray) (n1 n2 : ByteArray) (k1 k2 : Lit) (fl1 bal1 fl2 bal2 x : Int) (hP : Pay f n1 n2 k1 k2 fl1 bal1 fl2 bal2 x) (X : Option Addr) (cx : Nat) (hcx : 2 ≤ cx) (hX : Kd.C k54 w X 2 (ents n1 n2 x)) (hXo : ∀ ad, X = some ad → ¬ Own p m v ad.block) (bc : Nat) (hbc : ¬ Own p m v bc) (hC : MapIs w Try.prog 75 bc 2 (chF k1 k2 x)) :
    Calls Try.prog 36 #[.pointer (some ⟨p, 0, none⟩), .string text, .slice X 2 cx, .map (some bc)] w fun e w' => ∃ v', e = .returned (.int .i64 (n + 1)) ∧ Led w' B p m (N + 2) v' (n + 1) (newF f k1 k2 fl1 bal1 fl2 bal2 x) ∧ Mod w w' (Own p m v) ∧ (v'.ownBlock = v.ownBlock ∨ ∃ b, v'.ownBlock = some b ∧ w.heap.size ≤ b) := by
  obtain ⟨Av, cv, rfl⟩ := hL.slice
  have HL := Aside0.mk hL
  have HX := Aside0.mk hX
  have HP := Aside0.mk hP
  have HC := Aside0.mk hC
  obtain ⟨g, hg⟩ : ∃ g, g = newF f k1 k2 fl1 bal1 fl2 bal2 x := ⟨_, rfl⟩
  have hpa := Aside0.mk (fun {key v : Value} {kl : Lit} => pay_at hP (key := key) (v := v) (kl := kl))
  have hms := Aside0.mk (mix_start f k1 k2 fl1 bal1 fl2 bal2 x)
  rw [← hg] at hpa hms ⊢
  have hbc2 := Aside0.mk hbc
  have hown := Aside0.mk HL.out.lt
  clear hL hX hP hC hbc hg
  go_enter Try.func36, Try.ntmps36
  go_wp2_with (first
    | (at_range; refine wp_range _ rfl _ 82 rfl 75 2 law75 Try.underlying82 bc 2 (chF k1 k2 x) rfl HC.out ?_)
    | fail)
  intro w1 cnt hR hcnt hg1 hs1
  have HR := Aside0.mk hR
  have HL1 : Aside0 (Led w1 B p m N (.slice Av n cv) n (mixF f g (fun kl => (chF k1 k2 x kl).isSome))) := ⟨by rw [hms.out]; exact HL.out.mod ((Mod.refl w (fun _ => False)).grown hg1 (fun _ h => by cases h)) (fun _ _ => id)⟩
  have HM1 : Aside0 (Mod w w1 (fun k => k = m)) := ⟨(Mod.refl w _).grown hg1 (fun _ h => by cases h)⟩
  obtain ⟨r, hr⟩ : ∃ r, r = w.heap.size := ⟨_, rfl⟩
  rw [← hr] at HR ⊢
  have hrl : Aside0 (w.heap.size ≤ r) := ⟨Nat.le_of_eq hr.symm⟩
  clear hR hg1 hs1 hr HC hms
  go_wp2_with fail
  go_loopw [10] (fun _ wr => ∃ left cnt N1, Aside0 (RangeIs wr Try.prog 75 bc r 2 (chF k1 k2 x) left cnt) ∧ Aside0 (Led wr B p m N1 (.slice Av n cv) n (mixF f g left)) ∧ Aside0 (N1 + cnt ≤ N + 2) ∧ Aside0 (Mod w wr (fun k => k = m)))
    (fun _ wr => wr.rangeLeft bc r)
  case atStart => exact ⟨_, cnt, N, HR, HL1, ⟨by omega⟩, HM1⟩
  case round =>
    obtain ⟨left, cnt, N1, HR, HL, HN, HM⟩ := hrel
    have hm0 := Aside0.mk HR.out.left_eq
    go_wp2_with (first
      | (at_next; refine wp_next _ rfl _ rfl 75 law75 bc r 2 (chF k1 k2 x) left cnt rfl HR.out ?_ ?_)
      | fail)
    · intro hc hl
      have H1 : Aside0 (Led wr.drew B p m (N + 2) (.slice Av n cv) n g) := ⟨by have h := HL.out; rw [mix_end f g hl] at h; exact (h.mono (by have := HN.out; omega)).below (Below.refl _ _).drew⟩
      have M1 : Aside0 (Mod w wr.drew (fun k => k = m)) := ⟨HM.out.drew⟩
      clear HR HL HN HM hl
      have hw1 : wrap64 ((n : Int) + 1) = (n : Int) + 1 := by unfold wrap64; omega
      go_wp2_with fail
      refine start_ (n := 12) (S := fun w' => w'.cell? ⟨p, 2, none⟩ = some (.slice Av n cv)) (ds := []) #[false, false, false, false, false, false, false, false, false, false, false, false] (by kernel_rfl) rfl rfl H1.out.cells.2.1 (fun hHeld => ?_)
      refine with_tabW ledBook.tab7 ledBook.bits7 (fun HT_ HW_ => ?_)
      generalize wr.drew = w2 at H1 M1 hHeld ⊢
      refine pure_ (i := 0) (N := some 37) (v := ?_) (a' := ?_) #[true, false, false, false, false, false, false, false, false, false, false, false] rfl rfl (any_of HT_.out (by kernel_rfl)) (fun _ _ _ h => h) (Or.inl ⟨by rfl, ?_⟩) ?_ ?_
      rotate_left
      · intro w'
        go_simp
        with_reducible rfl
      rotate_left
      · simp only [Act.put, List.setIfInBounds_toArray, List.set_cons_zero, List.set_cons_succ, i64_w, i32_w]
        rfl
      refine pure_ (i := 1) (N := some 38) (v := ?_) (a' := ?_) #[true, true, false, false, false, false, false, false, false, false, false, false] rfl rfl (any_of HT_.out (by kernel_rfl)) (fun _ _ _ h => h) (Or.inl ⟨by rfl, ?_⟩) ?_ ?_
      rotate_left
      · intro w'
        go_simp
        with_reducible rfl
      rotate_left
      · simp only [Act.put, List.setIfInBounds_toArray, List.set_cons_zero, List.set_cons_succ, i64_w, i32_w]
        rfl
      refine pure_ (i := 2) (N := some 39) (v := ?_) (a' := ?_) #[true, true, true, false, false, false, false, false, false, false, false, false] rfl rfl (any_of HT_.out (by kernel_rfl)) (fun _ _ _ h => h) (Or.inl ⟨by rfl, ?_⟩) ?_ ?_
      rotate_left
      · intro w'
        go_simp
        with_reducible rfl
      rotate_left
      · simp only [Act.put, List.setIfInBounds_toArray, List.set_cons_zero, List.set_cons_succ, i64_w, i32_w]
        rfl
      refine take_ (i := 3) (N := some 40) (v := ?_) (a' := ?_) #[true, true, true, true, false, false, false, false, false, false, false, false] rfl rfl (take_ofW HT_.out HW_.out (by kernel_rfl)) (fun _ _ _ h => h) (Or.inl ⟨by rfl, ?_⟩) hHeld ?_ ?_
      rotate_left
      · rintro w' s0
        go_simp
        with_reducible rfl
      rotate_left
      · simp only [Act.put, List.setIfInBounds_toArray, List.set_cons_zero, List.set_cons_succ, i64_w, i32_w]
        rfl
      refine pure_ (i := 4) (N := some 41) (v := ?_) (a' := ?_) #[true, true, true, true, true, false, false, false, false, false, false, false] rfl rfl (any_of HT_.out (by kernel_rfl)) (fun _ _ _ h => h) (Or.inl ⟨by rfl, ?_⟩) ?_ ?_
      rotate_left
      · intro w'
        go_simp
        with_reducible rfl
      rotate_left
      · simp only [Act.put, List.setIfInBounds_toArray, List.set_cons_zero, List.set_cons_succ, i64_w, i32_w]
        rfl
      refine pure_ (i := 5) (N := some 42) (v := ?_) (a' := ?_) #[true, true, true, true, true, true, false, false, false, false, false, false] rfl rfl (any_of HT_.out (by kernel_rfl)) (fun _ _ _ h => h) (Or.inl ⟨by rfl, ?_⟩) ?_ ?_
      rotate_left
      · intro w'
        go_simp
        with_reducible rfl
      rotate_left
      · simp only [Act.put, List.setIfInBounds_toArray, List.set_cons_zero, List.set_cons_succ, i64_w, i32_w]
        rfl
      refine pure_ (i := 6) (N := some 43) (v := ?_) (a' := ?_) #[true, true, true, true, true, true, true, false, false, false, false, false] rfl rfl (any_of HT_.out (by kernel_rfl)) (fun _ _ _ h => h) (Or.inl ⟨by rfl, ?_⟩) ?_ ?_
      rotate_left
      · intro w'
        go_simp
        with_reducible rfl
      rotate_left
      · simp only [Act.put, List.setIfInBounds_toArray, List.set_cons_zero, List.set_cons_succ, i64_w, i32_w]
        rfl
      refine pure_ (i := 7) (N := some 44) (v := ?_) (a' := ?_) #[true, true, true, true, true, true, true, true, false, false, false, false] rfl rfl (any_of HT_.out (by kernel_rfl)) (fun _ _ _ h => h) (Or.inl ⟨by rfl, ?_⟩) ?_ ?_
      rotate_left
      · intro w'
        go_simp
        with_reducible rfl
      rotate_left
      · simp only [Act.put, List.setIfInBounds_toArray, List.set_cons_zero, List.set_cons_succ, i64_w, i32_w]
        rfl
      refine two_ (i := 8) (j := 10) (Ni := some 45) (Nj := some 12) #[true, true, true, true, true, true, true, true, true, false, false, false] #[true, true, true, true, true, true, true, true, false, false, true, false] rfl rfl rfl rfl (two_of HT_.out (by kernel_rfl)) (by decide) (by decide) (fun K hK => ?_) (fun K hK => ?_)
      · skip
        refine goes_ Try.func44 (by kernel_rfl) rfl #[.slice X 2 cx] (by rfl) rfl rfl (by first | (go_simp; done) | (go_simp; rfl)) ?_
        refine (clone2 n1 n2 x X cx hcx _ (M1.out.ents HX.out (fun ad e h => hXo ad e (.inr (.inl h))))).mono ?_
        rintro e w3 ⟨A3, c3, rfl, hB3⟩
        refine ⟨_, rfl, ?_⟩
        have H2 := Aside0.mk (H1.out.below hB3)
        have M2 := Aside0.mk (M1.out.below hB3)
        refine hK.out _ _ H2.out.cells.2.1 (fun hHeld => ?_)
        clear hK K
        refine norm_ (a' := ?_) ?_ ?_
        rotate_left
        · show Act.put _ (some 45) _ = _
          simp only [Act.put, List.setIfInBounds_toArray, List.set_cons_zero, List.set_cons_succ, i64_w, i32_w]
          rfl
        refine pure_ (i := 9) (N := some 46) (v := ?_) (a' := ?_) #[true, true, true, true, true, true, true, true, true, true, false, false] rfl rfl (any_of HT_.out (by kernel_rfl)) (fun _ _ _ h => h) (Or.inl ⟨by rfl, ?_⟩) ?_ ?_
        rotate_left
        · intro w'
          go_simp
          with_reducible rfl
        rotate_left
        · simp only [Act.put, List.setIfInBounds_toArray, List.set_cons_zero, List.set_cons_succ, i64_w, i32_w]
          rfl
        refine one_ (i := 10) (N := some 12) #[true, true, true, true, true, true, true, true, true, true, true, false] rfl rfl (one_of HT_.out (by kernel_rfl)) (by decide) (fun K hK => ?_)
        have H3 : Aside0 (Led (w3.alloc (.cells #[.int .i64 0, .string ⟨#[]⟩, .slice none 0 0] 37)) B p m (N + 2) (.slice Av n cv) n g) := ⟨H2.out.below (below_alloc (Below.refl _ _) _)⟩
        have M3 : Aside0 (Mod w (w3.alloc (.cells #[.int .i64 0, .string ⟨#[]⟩, .slice none 0 0] 37)) (fun k => k = m)) := ⟨M2.out.alloc _⟩
        have L3 := Aside0.mk (blk_new w3 (.cells #[.int .i64 0, .string ⟨#[]⟩, .slice none 0 0] 37))
        refine event_step (v := .pointer (some ⟨w3.heap.size, 0, none⟩)) (w1 := w3.alloc (.cells #[.int .i64 0, .string ⟨#[]⟩, .slice none 0 0] 37)) (by rfl) (by first | (go_simp; done) | (go_simp; rfl)) ?_
        refine hK.out _ _ H3.out.cells.2.1 (fun hHeld => ?_)
        clear hK K
        refine norm_ (a' := ?_) ?_ ?_
        rotate_left
        · show Act.put _ (some 12) _ = _
          simp only [Act.put, List.setIfInBounds_toArray, List.set_cons_zero, List.set_cons_succ, i64_w, i32_w]
          rfl
        refine one_ (i := 11) (N := none) #[true, true, true, true, true, true, true, true, true, true, true, true] rfl rfl (one_of HT_.out (by kernel_rfl)) (by decide) (fun K hK => ?_)
        have H4 : Aside0 (Led (w3.alloc (.cells #[.int .i64 (n + 1), .string text, .slice A3 2 c3] 37)) B p m (N + 2) (.slice Av n cv) n g) := ⟨H2.out.below (below_alloc (Below.refl _ _) _)⟩
        have M4 : Aside0 (Mod w (w3.alloc (.cells #[.int .i64 (n + 1), .string text, .slice A3 2 c3] 37)) (fun k => k = m)) := ⟨M2.out.alloc _⟩
        have L4 := Aside0.mk (blk_new w3 (.cells #[.int .i64 (n + 1), .string text, .slice A3 2 c3] 37))
        rw [if_pos (by rfl)]
        unfold Oper.wp
        go_simp
        refine hK.out _ _ H4.out.cells.2.1 (fun hHeld => ?_)
        clear hK K
        refine done_ (done_of HT_.out (by kernel_rfl)) ?_
        obtain ⟨gp, hgp⟩ : ∃ gp, gp = w3.heap.size := ⟨_, rfl⟩
        have hgl : Aside0 (¬ Own p m (.slice Av n cv) gp) := ⟨fun h => by have := H2.out.lt gp h; omega⟩
        generalize hw5 : w3.alloc (.cells #[.int .i64 (n + 1), .string text, .slice A3 2 c3] 37) = w5 at H4 M4 L4 ⊢
        rw [← hgp] at L4 ⊢
        clear hw5 hgp H1 H2 H3 M1 M2 M3 L3 hHeld HT_ HW_
        go_wp2_with fail
        have H5 : Aside0 (Led w5.drew B p m (N + 2) (.slice Av n cv) n g) := ⟨H4.out.below (Below.refl _ _).drew⟩
        have M5 : Aside0 (Mod w w5.drew (fun k => k = m)) := ⟨M4.out.drew⟩
        have L5 := Aside0.mk (blk_drew L4.out)
        clear H4 M4 L4
        refine start_ (n := 11) (S := fun w' => w'.cell? ⟨p, 2, none⟩ = some (.slice Av n cv) ∧ w'.cell? ⟨gp, 0, none⟩ = some (.int .i64 (n + 1)) ∧ w'.cell? ⟨gp, 1, none⟩ = some (.string text) ∧ w'.cell? ⟨gp, 2, none⟩ = some (.slice A3 2 c3)) (ds := [10]) #[false, false, false, false, false, false, false, false, false, false, false] (by kernel_rfl) rfl rfl ⟨H5.out.cells.2.1, (box3 L5.out).1, (box3 L5.out).2.1, (box3 L5.out).2.2.1⟩ (fun hHeld => ?_)
        refine with_tabW ledBook.tab8 ledBook.bits8 (fun HT_ HW_ => ?_)
        generalize w5.drew = w6 at H5 M5 L5 hHeld ⊢
        refine pure_ (i := 0) (N := some 47) (v := ?_) (a' := ?_) #[true, false, false, false, false, false, false, false, false, false, false] rfl rfl (any_of HT_.out (by kernel_rfl)) (fun _ _ _ h => h) (Or.inl ⟨by rfl, ?_⟩) ?_ ?_
        rotate_left
        · intro w'
          go_simp
          with_reducible rfl
        rotate_left
        · simp only [Act.put, List.setIfInBounds_toArray, List.set_cons_zero, List.set_cons_succ, i64_w, i32_w]
          rfl
        refine pure_ (i := 1) (N := some 48) (v := ?_) (a' := ?_) #[true, true, false, false, false, false, false, false, false, false, false] rfl rfl (any_of HT_.out (by kernel_rfl)) (fun _ _ _ h => h) (Or.inl ⟨by rfl, ?_⟩) ?_ ?_
        rotate_left
        · intro w'
          go_simp
          with_reducible rfl
        rotate_left
        · simp only [Act.put, List.setIfInBounds_toArray, List.set_cons_zero, List.set_cons_succ, i64_w, i32_w]
          rfl
        refine pure_ (i := 2) (N := some 49) (v := ?_) (a' := ?_) #[true, true, true, false, false, false, false, false, false, false, false] rfl rfl (any_of HT_.out (by kernel_rfl)) (fun _ _ _ h => h) (Or.inl ⟨by rfl, ?_⟩) ?_ ?_
        rotate_left
        · intro w'
          go_simp
          with_reducible rfl
        rotate_left
        · simp only [Act.put, List.setIfInBounds_toArray, List.set_cons_zero, List.set_cons_succ, i64_w, i32_w]
          rfl
        refine pure_ (i := 3) (N := some 50) (v := ?_) (a' := ?_) #[true, true, true, true, false, false, false, false, false, false, false] rfl rfl (any_of HT_.out (by kernel_rfl)) (fun _ _ _ h => h) (Or.inl ⟨by rfl, ?_⟩) ?_ ?_
        rotate_left
        · intro w'
          go_simp
          with_reducible rfl
        rotate_left
        · simp only [Act.put, List.setIfInBounds_toArray, List.set_cons_zero, List.set_cons_succ, i64_w, i32_w]
          rfl
        refine take_ (i := 4) (N := some 51) (v := ?_) (a' := ?_) #[true, true, true, true, true, false, false, false, false, false, false] rfl rfl (take_ofW HT_.out HW_.out (by kernel_rfl)) (fun _ _ _ h => h) (Or.inl ⟨by rfl, ?_⟩) hHeld ?_ ?_
        rotate_left
        · rintro w' ⟨s0, s1, s2, s3⟩
          go_simp
          with_reducible rfl
        rotate_left
        · simp only [Act.put, List.setIfInBounds_toArray, List.set_cons_zero, List.set_cons_succ, i64_w, i32_w]
          rfl
        refine take_ (i := 5) (N := some 52) (v := ?_) (a' := ?_) #[true, true, true, true, true, true, false, false, false, false, false] rfl rfl (take_ofW HT_.out HW_.out (by kernel_rfl)) (fun _ _ _ h => h) (Or.inl ⟨by rfl, ?_⟩) hHeld ?_ ?_
        rotate_left
        · rintro w' ⟨s0, s1, s2, s3⟩
          go_simp
          with_reducible rfl
        rotate_left
        · simp only [Act.put, List.setIfInBounds_toArray, List.set_cons_zero, List.set_cons_succ, i64_w, i32_w]
          rfl
        refine one_ (i := 6) (N := some 53) #[true, true, true, true, true, true, true, false, false, false, false] rfl rfl (one_of HT_.out (by kernel_rfl)) (by decide) (fun K hK => ?_)
        refine event_step (v := .slice (some ⟨w6.heap.size, 0, none⟩) 1 1) (w1 := w6.alloc (.cells #[.int .i64 (n + 1), .string text, .slice A3 2 c3] 37)) (by rfl) (by first | (go_simp; done) | (go_simp; rfl)) ?_
        have L6 := Aside0.mk (blk_alloc L5.out (.cells #[.int .i64 (n + 1), .string text, .slice A3 2 c3] 37))
        refine hK.out _ _ ⟨(H5.out.below (below_alloc (Below.refl _ _) _)).cells.2.1, (box3 L6.out).1, (box3 L6.out).2.1, (box3 L6.out).2.2.1⟩ (fun hHeld => ?_)
        clear hK K
        refine norm_ (a' := ?_) ?_ ?_
        rotate_left
        · show Act.put _ (some 53) _ = _
          simp only [Act.put, List.setIfInBounds_toArray, List.set_cons_zero, List.set_cons_succ, i64_w, i32_w]
          rfl
        refine one_ (i := 7) (N := some 54) #[true, true, true, true, true, true, true, true, false, false, false] rfl rfl (one_of HT_.out (by kernel_rfl)) (by decide) (fun K hK => ?_)
        obtain ⟨rows, hrl, hRR⟩ := H5.out.row
        have hb' : B ≤ w6.heap.size := by have := H5.out.bm; have := H5.out.acc.lt; omega
        refine Kd.R_append_step (Kd.raw 3) (w0 := w6) B (by rfl) (.tmp 51) (.tmp 53) 22 37 (.agg #[.int .i64 0, .string ⟨#[]⟩, .slice none 0 0]) 48 rfl Try.underlying22 info37 rfl (by decide) (by omega) (.slice Av n cv) rows [.int .i64 (n + 1), .string text, .slice A3 2 c3] [.int .i64 (n + 1), .string text, .slice A3 2 c3] (fun k => k ≠ p ∧ k ≠ m) (fun _ => False) rfl rfl ⟨rfl, rfl, by simp [Value.oneCell']⟩ (fun _ h => h.elim) (fun k hk => ⟨by have := H5.out.lt p (.inl rfl); omega, by have := H5.out.acc.lt; omega⟩) hRR (Below.refl _ _) hb' (by omega) ?_
        intro v1 w7 hN hb hg hat
        obtain ⟨A9, c9, ev, _, _⟩ := Kd.R_reads hN
        rw [List.length_append, hrl, List.length_singleton] at ev
        have hpv : some p ≠ Value.ownBlock (.slice Av n cv) := fun e => (hRR.1 p e.symm).1 rfl
        have hmv : some m ≠ Value.ownBlock (.slice Av n cv) := fun e => (hRR.1 m e.symm).2 rfl
        have H7 : Aside0 (Led (w7.setCell ⟨p, 2, none⟩ v1) B p m (N + 2) v1 (n + 1) g) := ⟨H5.out.posted hN (by simp [hrl]) hg hpv hmv⟩
        have L7 := Aside0.mk (blk_grown L5.out hg (fun e => hgl.out (.inr (.inr e))))
        have c7 : w7.cell? ⟨p, 2, none⟩ = some (.slice Av n cv) ∧ w7.frozen? ⟨p, 2, none⟩ = false := by obtain ⟨o, hh, hb⟩ := H5.out.blk; have h9 := (hg.block p (H5.out.lt p (.inl rfl)) hpv).trans hb; simp [World.cell?, World.frozen?, h9]
        obtain ⟨c71, c72⟩ := c7
        have M7 : Aside0 (Mod w (w7.setCell ⟨p, 2, none⟩ v1) (Own p m (.slice Av n cv))) := ⟨((M5.out.wider (S' := Own p m (.slice Av n cv)) (fun k hk => .inr (.inl hk))).grown hg (fun k hk => .inl (.inr (.inr hk.symm)))).setCell (a := ⟨p, 2, none⟩) (.inl (.inl rfl)) _⟩
        have hat7 : Aside0 (v1.ownBlock = Value.ownBlock (.slice Av n cv) ∨ ∃ b, v1.ownBlock = some b ∧ w.heap.size ≤ b) := ⟨hat.imp id (fun ⟨b, e, hbl⟩ => ⟨b, e, Nat.le_trans M5.out.size hbl⟩)⟩
        refine hK.out _ _ ⟨c71, (box3 L7.out).1, (box3 L7.out).2.1, (box3 L7.out).2.2.1⟩ (fun hHeld => ?_)
        clear hK K
        refine norm_ (a' := ?_) ?_ ?_
        rotate_left
        · show Act.put _ (some 54) _ = _
          simp only [Act.put, List.setIfInBounds_toArray, List.set_cons_zero, List.set_cons_succ, i64_w, i32_w]
          rfl
        refine pure_ (i := 8) (N := some 55) (v := ?_) (a' := ?_) #[true, true, true, true, true, true, true, true, true, false, false] rfl rfl (any_of HT_.out (by kernel_rfl)) (fun _ _ _ h => h) (Or.inl ⟨by rfl, ?_⟩) ?_ ?_
        rotate_left
        · intro w'
          go_simp
          with_reducible rfl
        rotate_left
        · simp only [Act.put, List.setIfInBounds_toArray, List.set_cons_zero, List.set_cons_succ, i64_w, i32_w]
          rfl
        refine pure_ (i := 9) (N := some 56) (v := ?_) (a' := ?_) #[true, true, true, true, true, true, true, true, true, true, false] rfl rfl (any_of HT_.out (by kernel_rfl)) (fun _ _ _ h => h) (Or.inl ⟨by rfl, ?_⟩) ?_ ?_
        rotate_left
        · intro w'
          go_simp
          with_reducible rfl
        rotate_left
        · simp only [Act.put, List.setIfInBounds_toArray, List.set_cons_zero, List.set_cons_succ, i64_w, i32_w]
          rfl
        refine last_ (i := 10) (N := none) #[true, true, true, true, true, true, true, true, true, true, true] rfl rfl (one_of HT_.out (by kernel_rfl)) (by decide) (fun K hK => ?_)
        have k0 : (w7.setCell ⟨p, 2, none⟩ v1).cell? ⟨gp, 0, none⟩ = some (.int .i64 (n + 1)) := (box3 (blk_set L7.out (a := ⟨p, 2, none⟩) (fun e => hgl.out (.inl e)) v1)).1
        subst ev
        rw [if_pos (by rfl)]
        unfold Oper.wp
        go_simp
        refine hK.out _ _ ?_
        clear hK K
        refine done_ (done_of HT_.out (by kernel_rfl)) ?_
        clear hN hb hg hat hRR hpv hmv c71 c72 H5 M5 L5 L6 L7 hHeld HT_ HW_ hb'
        go_wp2_with fail
        go_ret
        exact ⟨_, rfl, H7.out, M7.out, hat7.out⟩
      · skip
        have H2 : Aside0 (Led (w2.alloc (.cells #[.int .i64 0, .string ⟨#[]⟩, .slice none 0 0] 37)) B p m (N + 2) (.slice Av n cv) n g) := ⟨H1.out.below (below_alloc (Below.refl _ _) _)⟩
        have M2 : Aside0 (Mod w (w2.alloc (.cells #[.int .i64 0, .string ⟨#[]⟩, .slice none 0 0] 37)) (fun k => k = m)) := ⟨M1.out.alloc _⟩
        have L2 := Aside0.mk (blk_new w2 (.cells #[.int .i64 0, .string ⟨#[]⟩, .slice none 0 0] 37))
        refine event_step (v := .pointer (some ⟨w2.heap.size, 0, none⟩)) (w1 := w2.alloc (.cells #[.int .i64 0, .string ⟨#[]⟩, .slice none 0 0] 37)) (by rfl) (by first | (go_simp; done) | (go_simp; rfl)) ?_
        refine hK.out _ _ H2.out.cells.2.1 (fun hHeld => ?_)
        clear hK K
        refine norm_ (a' := ?_) ?_ ?_
        rotate_left
        · show Act.put _ (some 12) _ = _
          simp only [Act.put, List.setIfInBounds_toArray, List.set_cons_zero, List.set_cons_succ, i64_w, i32_w]
          rfl
        refine one_ (i := 8) (N := some 45) #[true, true, true, true, true, true, true, true, true, false, true, false] rfl rfl (one_of HT_.out (by kernel_rfl)) (by decide) (fun K hK => ?_)
        refine goes_ Try.func44 (by kernel_rfl) rfl #[.slice X 2 cx] (by rfl) rfl rfl (by first | (go_simp; done) | (go_simp; rfl)) ?_
        refine (clone2 n1 n2 x X cx hcx _ (M2.out.ents HX.out (fun ad e h => hXo ad e (.inr (.inl h))))).mono ?_
        rintro e w3 ⟨A3, c3, rfl, hB3⟩
        refine ⟨_, rfl, ?_⟩
        have H3 := Aside0.mk (H2.out.below hB3)
        have M3 := Aside0.mk (M2.out.below hB3)
        have L3 := Aside0.mk (blk_below L2.out hB3)
        obtain ⟨gp, hgp⟩ : ∃ gp, gp = w2.heap.size := ⟨_, rfl⟩
        have hgl : Aside0 (¬ Own p m (.slice Av n cv) gp) := ⟨fun h => by have := H1.out.lt gp h; omega⟩
        have hgw : Aside0 (w.heap.size ≤ gp) := ⟨by rw [hgp]; exact M1.out.size⟩
        refine hK.out _ _ H3.out.cells.2.1 (fun hHeld => ?_)
        clear hK K
        refine norm_ (a' := ?_) ?_ ?_
        rotate_left
        · show Act.put _ (some 45) _ = _
          simp only [Act.put, List.setIfInBounds_toArray, List.set_cons_zero, List.set_cons_succ, i64_w, i32_w]
          rfl
        refine pure_ (i := 9) (N := some 46) (v := ?_) (a' := ?_) #[true, true, true, true, true, true, true, true, true, true, true, false] rfl rfl (any_of HT_.out (by kernel_rfl)) (fun _ _ _ h => h) (Or.inl ⟨by rfl, ?_⟩) ?_ ?_
        rotate_left
        · intro w'
          go_simp
          with_reducible rfl
        rotate_left
        · simp only [Act.put, List.setIfInBounds_toArray, List.set_cons_zero, List.set_cons_succ, i64_w, i32_w]
          rfl
        refine one_ (i := 11) (N := none) #[true, true, true, true, true, true, true, true, true, true, true, true] rfl rfl (one_of HT_.out (by kernel_rfl)) (by decide) (fun K hK => ?_)
        rw [← hgp] at L3 ⊢
        clear hgp
        obtain ⟨t0, t1, t2, z0, z1, z2⟩ := box3 L3.out
        have M4 : Aside0 (Mod w (((w3.setCell ⟨gp, 0, none⟩ (.int .i64 (n + 1))).setCell ⟨gp, 1, none⟩ (.string text)).setCell ⟨gp, 2, none⟩ (.slice A3 2 c3)) (fun k => k = m)) := ⟨((M3.out.setCell (a := ⟨gp, 0, none⟩) (.inr hgw.out) _).setCell (a := ⟨gp, 1, none⟩) (.inr hgw.out) _).setCell (a := ⟨gp, 2, none⟩) (.inr hgw.out) _⟩
        have H4 : Aside0 (Led (((w3.setCell ⟨gp, 0, none⟩ (.int .i64 (n + 1))).setCell ⟨gp, 1, none⟩ (.string text)).setCell ⟨gp, 2, none⟩ (.slice A3 2 c3)) B p m (N + 2) (.slice Av n cv) n g) := ⟨H3.out.mod (S := fun k => k = gp) ((((Mod.refl w3 (fun k => k = gp)).setCell (a := ⟨gp, 0, none⟩) (.inl rfl) _).setCell (a := ⟨gp, 1, none⟩) (.inl rfl) _).setCell (a := ⟨gp, 2, none⟩) (.inl rfl) _) (fun k h1 h2 => hgl.out (h2 ▸ h1))⟩
        have L4 := Aside0.mk (set3_all L3.out (.int .i64 (n + 1)) (.string text) (.slice A3 2 c3))
        rw [if_pos (by rfl)]
        unfold Oper.wp
        go_simp
        refine hK.out _ _ H4.out.cells.2.1 (fun hHeld => ?_)
        clear hK K
        refine done_ (done_of HT_.out (by kernel_rfl)) ?_
        generalize hw5 : (((w3.setCell ⟨gp, 0, none⟩ (.int .i64 (n + 1))).setCell ⟨gp, 1, none⟩ (.string text)).setCell ⟨gp, 2, none⟩ (.slice A3 2 c3)) = w5 at H4 M4 L4 ⊢
        clear hw5 H1 H2 H3 M1 M2 M3 L2 L3 hHeld HT_ HW_ t0 t1 t2 z0 z1 z2 hgw
        go_wp2_with fail
        have H5 : Aside0 (Led w5.drew B p m (N + 2) (.slice Av n cv) n g) := ⟨H4.out.below (Below.refl _ _).drew⟩
        have M5 : Aside0 (Mod w w5.drew (fun k => k = m)) := ⟨M4.out.drew⟩
        have L5 := Aside0.mk (blk_drew L4.out)
        clear H4 M4 L4
        refine start_ (n := 11) (S := fun w' => w'.cell? ⟨p, 2, none⟩ = some (.slice Av n cv) ∧ w'.cell? ⟨gp, 0, none⟩ = some (.int .i64 (n + 1)) ∧ w'.cell? ⟨gp, 1, none⟩ = some (.string text) ∧ w'.cell? ⟨gp, 2, none⟩ = some (.slice A3 2 c3)) (ds := [10]) #[false, false, false, false, false, false, false, false, false, false, false] (by kernel_rfl) rfl rfl ⟨H5.out.cells.2.1, (box3 L5.out).1, (box3 L5.out).2.1, (box3 L5.out).2.2.1⟩ (fun hHeld => ?_)
        refine with_tabW ledBook.tab8 ledBook.bits8 (fun HT_ HW_ => ?_)
        generalize w5.drew = w6 at H5 M5 L5 hHeld ⊢
        refine pure_ (i := 0) (N := some 47) (v := ?_) (a' := ?_) #[true, false, false, false, false, false, false, false, false, false, false] rfl rfl (any_of HT_.out (by kernel_rfl)) (fun _ _ _ h => h) (Or.inl ⟨by rfl, ?_⟩) ?_ ?_
        rotate_left
        · intro w'
          go_simp
          with_reducible rfl
        rotate_left
        · simp only [Act.put, List.setIfInBounds_toArray, List.set_cons_zero, List.set_cons_succ, i64_w, i32_w]
          rfl
        refine pure_ (i := 1) (N := some 48) (v := ?_) (a' := ?_) #[true, true, false, false, false, false, false, false, false, false, false] rfl rfl (any_of HT_.out (by kernel_rfl)) (fun _ _ _ h => h) (Or.inl ⟨by rfl, ?_⟩) ?_ ?_
        rotate_left
        · intro w'
          go_simp
          with_reducible rfl
        rotate_left
        · simp only [Act.put, List.setIfInBounds_toArray, List.set_cons_zero, List.set_cons_succ, i64_w, i32_w]
          rfl
        refine pure_ (i := 2) (N := some 49) (v := ?_) (a' := ?_) #[true, true, true, false, false, false, false, false, false, false, false] rfl rfl (any_of HT_.out (by kernel_rfl)) (fun _ _ _ h => h) (Or.inl ⟨by rfl, ?_⟩) ?_ ?_
        rotate_left
        · intro w'
          go_simp
          with_reducible rfl
        rotate_left
        · simp only [Act.put, List.setIfInBounds_toArray, List.set_cons_zero, List.set_cons_succ, i64_w, i32_w]
          rfl
        refine pure_ (i := 3) (N := some 50) (v := ?_) (a' := ?_) #[true, true, true, true, false, false, false, false, false, false, false] rfl rfl (any_of HT_.out (by kernel_rfl)) (fun _ _ _ h => h) (Or.inl ⟨by rfl, ?_⟩) ?_ ?_
        rotate_left
        · intro w'
          go_simp
          with_reducible rfl
        rotate_left
        · simp only [Act.put, List.setIfInBounds_toArray, List.set_cons_zero, List.set_cons_succ, i64_w, i32_w]
          rfl
        refine take_ (i := 4) (N := some 51) (v := ?_) (a' := ?_) #[true, true, true, true, true, false, false, false, false, false, false] rfl rfl (take_ofW HT_.out HW_.out (by kernel_rfl)) (fun _ _ _ h => h) (Or.inl ⟨by rfl, ?_⟩) hHeld ?_ ?_
        rotate_left
        · rintro w' ⟨s0, s1, s2, s3⟩
          go_simp
          with_reducible rfl
        rotate_left
        · simp only [Act.put, List.setIfInBounds_toArray, List.set_cons_zero, List.set_cons_succ, i64_w, i32_w]
          rfl
        refine take_ (i := 5) (N := some 52) (v := ?_) (a' := ?_) #[true, true, true, true, true, true, false, false, false, false, false] rfl rfl (take_ofW HT_.out HW_.out (by kernel_rfl)) (fun _ _ _ h => h) (Or.inl ⟨by rfl, ?_⟩) hHeld ?_ ?_
        rotate_left
        · rintro w' ⟨s0, s1, s2, s3⟩
          go_simp
          with_reducible rfl
        rotate_left
        · simp only [Act.put, List.setIfInBounds_toArray, List.set_cons_zero, List.set_cons_succ, i64_w, i32_w]
          rfl
        refine one_ (i := 6) (N := some 53) #[true, true, true, true, true, true, true, false, false, false, false] rfl rfl (one_of HT_.out (by kernel_rfl)) (by decide) (fun K hK => ?_)
        refine event_step (v := .slice (some ⟨w6.heap.size, 0, none⟩) 1 1) (w1 := w6.alloc (.cells #[.int .i64 (n + 1), .string text, .slice A3 2 c3] 37)) (by rfl) (by first | (go_simp; done) | (go_simp; rfl)) ?_
        have L6 := Aside0.mk (blk_alloc L5.out (.cells #[.int .i64 (n + 1), .string text, .slice A3 2 c3] 37))
        refine hK.out _ _ ⟨(H5.out.below (below_alloc (Below.refl _ _) _)).cells.2.1, (box3 L6.out).1, (box3 L6.out).2.1, (box3 L6.out).2.2.1⟩ (fun hHeld => ?_)
        clear hK K
        refine norm_ (a' := ?_) ?_ ?_
        rotate_left
        · show Act.put _ (some 53) _ = _
          simp only [Act.put, List.setIfInBounds_toArray, List.set_cons_zero, List.set_cons_succ, i64_w, i32_w]
          rfl
        refine one_ (i := 7) (N := some 54) #[true, true, true, true, true, true, true, true, false, false, false] rfl rfl (one_of HT_.out (by kernel_rfl)) (by decide) (fun K hK => ?_)
        obtain ⟨rows, hrl, hRR⟩ := H5.out.row
        have hb' : B ≤ w6.heap.size := by have := H5.out.bm; have := H5.out.acc.lt; omega
        refine Kd.R_append_step (Kd.raw 3) (w0 := w6) B (by rfl) (.tmp 51) (.tmp 53) 22 37 (.agg #[.int .i64 0, .string ⟨#[]⟩, .slice none 0 0]) 48 rfl Try.underlying22 info37 rfl (by decide) (by omega) (.slice Av n cv) rows [.int .i64 (n + 1), .string text, .slice A3 2 c3] [.int .i64 (n + 1), .string text, .slice A3 2 c3] (fun k => k ≠ p ∧ k ≠ m) (fun _ => False) rfl rfl ⟨rfl, rfl, by simp [Value.oneCell']⟩ (fun _ h => h.elim) (fun k hk => ⟨by have := H5.out.lt p (.inl rfl); omega, by have := H5.out.acc.lt; omega⟩) hRR (Below.refl _ _) hb' (by omega) ?_
        intro v1 w7 hN hb hg hat
        obtain ⟨A9, c9, ev, _, _⟩ := Kd.R_reads hN
        rw [List.length_append, hrl, List.length_singleton] at ev
        have hpv : some p ≠ Value.ownBlock (.slice Av n cv) := fun e => (hRR.1 p e.symm).1 rfl
        have hmv : some m ≠ Value.ownBlock (.slice Av n cv) := fun e => (hRR.1 m e.symm).2 rfl
        have H7 : Aside0 (Led (w7.setCell ⟨p, 2, none⟩ v1) B p m (N + 2) v1 (n + 1) g) := ⟨H5.out.posted hN (by simp [hrl]) hg hpv hmv⟩
        have L7 := Aside0.mk (blk_grown L5.out hg (fun e => hgl.out (.inr (.inr e))))
        have c7 : w7.cell? ⟨p, 2, none⟩ = some (.slice Av n cv) ∧ w7.frozen? ⟨p, 2, none⟩ = false := by obtain ⟨o, hh, hb⟩ := H5.out.blk; have h9 := (hg.block p (H5.out.lt p (.inl rfl)) hpv).trans hb; simp [World.cell?, World.frozen?, h9]
        obtain ⟨c71, c72⟩ := c7
        have M7 : Aside0 (Mod w (w7.setCell ⟨p, 2, none⟩ v1) (Own p m (.slice Av n cv))) := ⟨((M5.out.wider (S' := Own p m (.slice Av n cv)) (fun k hk => .inr (.inl hk))).grown hg (fun k hk => .inl (.inr (.inr hk.symm)))).setCell (a := ⟨p, 2, none⟩) (.inl (.inl rfl)) _⟩
        have hat7 : Aside0 (v1.ownBlock = Value.ownBlock (.slice Av n cv) ∨ ∃ b, v1.ownBlock = some b ∧ w.heap.size ≤ b) := ⟨hat.imp id (fun ⟨b, e, hbl⟩ => ⟨b, e, Nat.le_trans M5.out.size hbl⟩)⟩
        refine hK.out _ _ ⟨c71, (box3 L7.out).1, (box3 L7.out).2.1, (box3 L7.out).2.2.1⟩ (fun hHeld => ?_)
        clear hK K
        refine norm_ (a' := ?_) ?_ ?_
        rotate_left
        · show Act.put _ (some 54) _ = _
          simp only [Act.put, List.setIfInBounds_toArray, List.set_cons_zero, List.set_cons_succ, i64_w, i32_w]
          rfl
        refine pure_ (i := 8) (N := some 55) (v := ?_) (a' := ?_) #[true, true, true, true, true, true, true, true, true, false, false] rfl rfl (any_of HT_.out (by kernel_rfl)) (fun _ _ _ h => h) (Or.inl ⟨by rfl, ?_⟩) ?_ ?_
        rotate_left
        · intro w'
          go_simp
          with_reducible rfl
        rotate_left
        · simp only [Act.put, List.setIfInBounds_toArray, List.set_cons_zero, List.set_cons_succ, i64_w, i32_w]
          rfl
        refine pure_ (i := 9) (N := some 56) (v := ?_) (a' := ?_) #[true, true, true, true, true, true, true, true, true, true, false] rfl rfl (any_of HT_.out (by kernel_rfl)) (fun _ _ _ h => h) (Or.inl ⟨by rfl, ?_⟩) ?_ ?_
        rotate_left
        · intro w'
          go_simp
          with_reducible rfl
        rotate_left
        · simp only [Act.put, List.setIfInBounds_toArray, List.set_cons_zero, List.set_cons_succ, i64_w, i32_w]
          rfl
        refine last_ (i := 10) (N := none) #[true, true, true, true, true, true, true, true, true, true, true] rfl rfl (one_of HT_.out (by kernel_rfl)) (by decide) (fun K hK => ?_)
        have k0 : (w7.setCell ⟨p, 2, none⟩ v1).cell? ⟨gp, 0, none⟩ = some (.int .i64 (n + 1)) := (box3 (blk_set L7.out (a := ⟨p, 2, none⟩) (fun e => hgl.out (.inl e)) v1)).1
        subst ev
        rw [if_pos (by rfl)]
        unfold Oper.wp
        go_simp
        refine hK.out _ _ ?_
        clear hK K
        refine done_ (done_of HT_.out (by kernel_rfl)) ?_
        clear hN hb hg hat hRR hpv hmv c71 c72 H5 M5 L5 L6 L7 hHeld HT_ HW_ hb'
        go_wp2_with fail
        go_ret
        exact ⟨_, rfl, H7.out, M7.out, hat7.out⟩
    · intro key v9 kl w4 cnt4 hkey hlk hfv hR4 hlt hg4 hs4 hen
      obtain ⟨nk, xk, fl, bal, rfl, rfl, hf0, hg0, b1, b2, b3, b4, b5, b6, b7, b8⟩ := hpa.out hkey hfv
      have HR4 := Aside0.mk hR4
      have hrp : ¬ Own p m (.slice Av n cv) r := fun h => by
        have := hown.out r h
        have := hrl.out
        omega
      have hrm : Aside0 (r ≠ m) := ⟨fun e => hrp (.inr (.inl e))⟩
      have HL4 : Aside0 (Led w4 B p m N1 (.slice Av n cv) n (mixF f g left)) := ⟨HL.out.mod (S := fun k => k = r) ((Mod.refl _ _).grown hg4 (fun k hk => .inl (by injection hk with hk; exact hk.symm))) (fun k h1 h2 => hrp (h2 ▸ h1))⟩
      have HM4 : Aside0 (Mod w w4 (fun k => k = m)) := ⟨HM.out.grown hg4 (fun j hj => .inr (by injection hj with hj; rw [← hj]; exact hrl.out))⟩
      have hmf : Aside0 (mixF f g left kl = some (.agg #[.int .i64 fl, .int .i64 bal, .int .i64 0])) := ⟨by unfold mixF; rw [if_pos hlk]; exact hf0⟩
      have hst := Aside0.mk (mix_step f g left (law75.key hkey) hg0)
      replace hkey := Aside0.mk hkey
      replace hlt := Aside0.mk hlt
      clear hR4 hfv hlk hf0 hg0 hg4 hs4 HR HL HM hrp
      go_wp2_with fail
      have H5 : Aside0 (Led (w4.alloc (.cells #[.string nk, .string EUR] 75)).drew B p m N1 (.slice Av n cv) n (mixF f g left)) := ⟨HL4.out.below (below_alloc (Below.refl _ _) _).drew⟩
      have M5 : Aside0 (Mod w (w4.alloc (.cells #[.string nk, .string EUR] 75)).drew (fun k => k = m)) := ⟨(HM4.out.alloc _).drew⟩
      have R5 : Aside0 (RangeIs (w4.alloc (.cells #[.string nk, .string EUR] 75)).drew Try.prog 75 bc r 2 (chF k1 k2 x) (fun z => left z && !z.sameKey kl) cnt4) := ⟨(HR4.out.alloc _).drewN 1⟩
      have K5 := Aside0.mk (blk_drew (blk_new w4 (.cells #[.string nk, .string EUR] 75)))
      obtain ⟨C1, C2⟩ := box2 K5.out
      have C0 := H5.out.cells.1
      have R0 := run_lookup law75 Try.underlying70 zero77 H5.out.acc hkey.out (v := .agg #[.int .i64 fl, .int .i64 bal, .int .i64 0]) (by rw [hmf.out]; rfl)
      obtain ⟨g9, hg9⟩ : ∃ g9, g9 = w4.heap.size := ⟨_, rfl⟩
      have hg9l : Aside0 (g9 ≠ m) := ⟨by have := HL4.out.acc.lt; omega⟩
      have hg9w : Aside0 (w.heap.size ≤ g9) := ⟨by rw [hg9]; exact HM4.out.size⟩
      rw [← hg9] at K5 C1 C2 ⊢
      clear hg9 HL4 HM4 HR4
      refine start_ (n := 8) (S := fun w' => w'.cell? ⟨p, 1, none⟩ = some (.map (some m)) ∧ w'.cell? ⟨g9, 0, none⟩ = some (.string nk) ∧ w'.cell? ⟨g9, 1, none⟩ = some (.string EUR) ∧ (Instr.lookup 70 (.map (some m)) (.agg #[.string nk, .string EUR]) false).run Try.prog w' = .ok (.agg #[.int .i64 fl, .int .i64 bal, .int .i64 0]) w') (ds := []) #[false, false, false, false, false, false, false, false] (by kernel_rfl) rfl rfl ⟨C0, C1, C2, R0⟩ (fun hHeld => ?_)
      refine with_tabW ledBook.tab4 ledBook.bits4 (fun HT_ HW_ => ?_)
      generalize World.drew _ = w2 at H5 M5 R5 K5 hHeld ⊢
      refine pure_ (i := 0) (N := some 20) (v := ?_) (a' := ?_) #[true, false, false, false, false, false, false, false] rfl rfl (any_of HT_.out (by kernel_rfl)) (fun _ _ _ h => h) (Or.inl ⟨by rfl, ?_⟩) ?_ ?_
      rotate_left
      · intro w'
        go_simp
        with_reducible rfl
      rotate_left
      · simp only [Act.put, List.setIfInBounds_toArray, List.set_cons_zero, List.set_cons_succ, i64_w, i32_w]
        rfl
      refine pure_ (i := 1) (N := some 21) (v := ?_) (a' := ?_) #[true, true, false, false, false, false, false, false] rfl rfl (any_of HT_.out (by kernel_rfl)) (fun _ _ _ h => h) (Or.inl ⟨by rfl, ?_⟩) ?_ ?_
      rotate_left
      · intro w'
        go_simp
        with_reducible rfl
      rotate_left
      · simp only [Act.put, List.setIfInBounds_toArray, List.set_cons_zero, List.set_cons_succ, i64_w, i32_w]
        rfl
      refine pure_ (i := 2) (N := some 22) (v := ?_) (a' := ?_) #[true, true, true, false, false, false, false, false] rfl rfl (any_of HT_.out (by kernel_rfl)) (fun _ _ _ h => h) (Or.inl ⟨by rfl, ?_⟩) ?_ ?_
      rotate_left
      · intro w'
        go_simp
        with_reducible rfl
      rotate_left
      · simp only [Act.put, List.setIfInBounds_toArray, List.set_cons_zero, List.set_cons_succ, i64_w, i32_w]
        rfl
      refine take_ (i := 3) (N := some 23) (v := ?_) (a' := ?_) #[true, true, true, true, false, false, false, false] rfl rfl (take_ofW HT_.out HW_.out (by kernel_rfl)) (fun _ _ _ h => h) (Or.inl ⟨by rfl, ?_⟩) hHeld ?_ ?_
      rotate_left
      · rintro w' ⟨s0, s1, s2, s3⟩
        go_simp
        with_reducible rfl
      rotate_left
      · simp only [Act.put, List.setIfInBounds_toArray, List.set_cons_zero, List.set_cons_succ, i64_w, i32_w]
        rfl
      refine take_ (i := 4) (N := some 24) (v := ?_) (a' := ?_) #[true, true, true, true, true, false, false, false] rfl rfl (take_ofW HT_.out HW_.out (by kernel_rfl)) (fun _ _ _ h => h) (Or.inl ⟨by rfl, ?_⟩) hHeld ?_ ?_
      rotate_left
      · rintro w' ⟨s0, s1, s2, s3⟩
        go_simp
        with_reducible rfl
      rotate_left
      · simp only [Act.put, List.setIfInBounds_toArray, List.set_cons_zero, List.set_cons_succ, i64_w, i32_w]
        rfl
      refine take_ (i := 5) (N := some 25) (v := ?_) (a' := ?_) #[true, true, true, true, true, true, false, false] rfl rfl (take_ofW HT_.out HW_.out (by kernel_rfl)) (fun _ _ _ h => h) (Or.inl ⟨by rfl, ?_⟩) hHeld ?_ ?_
      rotate_left
      · rintro w' ⟨s0, s1, s2, s3⟩
        go_simp
        with_reducible rfl
      rotate_left
      · simp only [Act.put, List.setIfInBounds_toArray, List.set_cons_zero, List.set_cons_succ, i64_w, i32_w]
        rfl
      refine one_ (i := 6) (N := some 11) #[true, true, true, true, true, true, true, false] rfl rfl (one_of HT_.out (by kernel_rfl)) (by decide) (fun K hK => ?_)
      have R2 := run_lookup law75 Try.underlying70 zero77 (H5.out.below (below_alloc (Below.refl _ _) (.cells #[.int .i64 0, .int .i64 0, .int .i64 0] 77))).acc hkey.out (v := .agg #[.int .i64 fl, .int .i64 bal, .int .i64 0]) (by rw [hmf.out]; rfl)
      refine event_step (v := .pointer (some ⟨w2.heap.size, 0, none⟩)) (w1 := w2.alloc (.cells #[.int .i64 0, .int .i64 0, .int .i64 0] 77)) (by rfl) (by first | (go_simp; done) | (go_simp; rfl)) ?_
      refine hK.out _ _ ⟨(H5.out.below (below_alloc (Below.refl _ _) _)).cells.1, (box2 (blk_alloc K5.out _)).1, (box2 (blk_alloc K5.out _)).2, R2⟩ (fun hHeld => ?_)
      clear hK K
      refine norm_ (a' := ?_) ?_ ?_
      rotate_left
      · show Act.put _ (some 11) _ = _
        simp only [Act.put, List.setIfInBounds_toArray, List.set_cons_zero, List.set_cons_succ, i64_w, i32_w]
        rfl
      refine one_ (i := 7) (N := none) #[true, true, true, true, true, true, true, true] rfl rfl (one_of HT_.out (by kernel_rfl)) (by decide) (fun K hK => ?_)
      have H6 : Aside0 (Led (w2.alloc (.cells #[.int .i64 fl, .int .i64 bal, .int .i64 0] 77)) B p m N1 (.slice Av n cv) n (mixF f g left)) := ⟨H5.out.below (below_alloc (Below.refl _ _) _)⟩
      have M6 : Aside0 (Mod w (w2.alloc (.cells #[.int .i64 fl, .int .i64 bal, .int .i64 0] 77)) (fun k => k = m)) := ⟨M5.out.alloc _⟩
      have R6 : Aside0 (RangeIs (w2.alloc (.cells #[.int .i64 fl, .int .i64 bal, .int .i64 0] 77)) Try.prog 75 bc r 2 (chF k1 k2 x) (fun z => left z && !z.sameKey kl) cnt4) := ⟨R5.out.alloc _⟩
      have K6 := Aside0.mk (blk_alloc K5.out (.cells #[.int .i64 fl, .int .i64 bal, .int .i64 0] 77))
      have L6 := Aside0.mk (blk_new w2 (.cells #[.int .i64 fl, .int .i64 bal, .int .i64 0] 77))
      have R3 := run_lookup law75 Try.underlying70 zero77 H6.out.acc hkey.out (v := .agg #[.int .i64 fl, .int .i64 bal, .int .i64 0]) (by rw [hmf.out]; rfl)
      rw [if_pos (by rfl)]
      unfold Oper.wp
      go_simp
      refine hK.out _ _ ⟨H6.out.cells.1, (box2 K6.out).1, (box2 K6.out).2, R3⟩ (fun hHeld => ?_)
      clear hK K
      refine done_ (done_of HT_.out (by kernel_rfl)) ?_
      obtain ⟨ga, hga⟩ : ∃ ga, ga = w2.heap.size := ⟨_, rfl⟩
      have hgal : Aside0 (ga ≠ m ∧ ga ≠ r ∧ ga ≠ bc ∧ ga ≠ g9 ∧ w.heap.size ≤ ga ∧ ¬ Own p m (.slice Av n cv) ga) := ⟨by have q1 := H5.out.acc.lt; have q2 := R5.out.lt; have q3 := R5.out.owns.lt; have q4 := blk_lt K5.out; have q5 := M5.out.size; have q6 := H5.out.lt ga; refine ⟨by omega, by omega, by omega, by omega, by omega, fun h => by have := q6 h; omega⟩⟩
      generalize hw3 : w2.alloc (.cells #[.int .i64 fl, .int .i64 bal, .int .i64 0] 77) = w3 at H6 M6 R6 K6 L6 ⊢
      rw [← hga] at L6 ⊢
      clear hga H5 M5 R5 K5 hHeld HT_ HW_ R0 R2 R3 C0 C1 C2 hw3
      obtain ⟨l0, l1, l2, z0, z1, z2⟩ := box3 L6.out
      go_wp2_with fail
      have H7 : Aside0 (Led (w3.setCell ⟨ga, 1, none⟩ (.int .i64 (bal + xk))).drew B p m N1 (.slice Av n cv) n (mixF f g left)) := ⟨H6.out.mod (S := fun k => k = ga) ((Mod.refl w3 (fun k => k = ga)).setCell (a := ⟨ga, 1, none⟩) (.inl rfl) _).drew (fun k h1 h2 => hgal.out.2.2.2.2.2 (h2 ▸ h1))⟩
      have M7 : Aside0 (Mod w (w3.setCell ⟨ga, 1, none⟩ (.int .i64 (bal + xk))).drew (fun k => k = m)) := ⟨(M6.out.setCell (a := ⟨ga, 1, none⟩) (.inr hgal.out.2.2.2.2.1) _).drew⟩
      have R7 : Aside0 (RangeIs (w3.setCell ⟨ga, 1, none⟩ (.int .i64 (bal + xk))).drew Try.prog 75 bc r 2 (chF k1 k2 x) (fun z => left z && !z.sameKey kl) cnt4) := ⟨(R6.out.of_blocks (Below.heap_setCell w3 ⟨ga, 1, none⟩ _ bc (Ne.symm hgal.out.2.2.1)) (Below.heap_setCell w3 ⟨ga, 1, none⟩ _ r (Ne.symm hgal.out.2.1))).drewN 1⟩
      have K7 := Aside0.mk (blk_drew (blk_set K6.out (a := ⟨ga, 1, none⟩) (Ne.symm hgal.out.2.2.2.1) (.int .i64 (bal + xk))))
      have L7 := Aside0.mk (blk_drew (set3_1 L6.out (.int .i64 (bal + xk))))
      clear H6 M6 R6 K6 L6 l0 l1 l2 z0 z1 z2
      refine start_ (n := 7) (S := fun w' => w'.cell? ⟨p, 1, none⟩ = some (.map (some m)) ∧ w'.cell? ⟨g9, 0, none⟩ = some (.string nk) ∧ w'.cell? ⟨g9, 1, none⟩ = some (.string EUR) ∧ w'.cell? ⟨ga, 0, none⟩ = some (.int .i64 fl) ∧ w'.cell? ⟨ga, 1, none⟩ = some (.int .i64 (bal + xk)) ∧ w'.cell? ⟨ga, 2, none⟩ = some (.int .i64 0)) (ds := []) #[false, false, false, false, false, false, false] (by kernel_rfl) rfl rfl ⟨H7.out.cells.1, (box2 K7.out).1, (box2 K7.out).2, (box3 L7.out).1, (box3 L7.out).2.1, (box3 L7.out).2.2.1⟩ (fun hHeld => ?_)
      refine with_tabW ledBook.tab6 ledBook.bits6 (fun HT_ HW_ => ?_)
      generalize World.drew _ = w7 at H7 M7 R7 K7 L7 hHeld ⊢
      refine pure_ (i := 0) (N := some 31) (v := ?_) (a' := ?_) #[true, false, false, false, false, false, false] rfl rfl (any_of HT_.out (by kernel_rfl)) (fun _ _ _ h => h) (Or.inl ⟨by rfl, ?_⟩) ?_ ?_
      rotate_left
      · intro w'
        go_simp
        with_reducible rfl
      rotate_left
      · simp only [Act.put, List.setIfInBounds_toArray, List.set_cons_zero, List.set_cons_succ, i64_w, i32_w]
        rfl
      refine pure_ (i := 1) (N := some 32) (v := ?_) (a' := ?_) #[true, true, false, false, false, false, false] rfl rfl (any_of HT_.out (by kernel_rfl)) (fun _ _ _ h => h) (Or.inl ⟨by rfl, ?_⟩) ?_ ?_
      rotate_left
      · intro w'
        go_simp
        with_reducible rfl
      rotate_left
      · simp only [Act.put, List.setIfInBounds_toArray, List.set_cons_zero, List.set_cons_succ, i64_w, i32_w]
        rfl
      refine pure_ (i := 2) (N := some 33) (v := ?_) (a' := ?_) #[true, true, true, false, false, false, false] rfl rfl (any_of HT_.out (by kernel_rfl)) (fun _ _ _ h => h) (Or.inl ⟨by rfl, ?_⟩) ?_ ?_
      rotate_left
      · intro w'
        go_simp
        with_reducible rfl
      rotate_left
      · simp only [Act.put, List.setIfInBounds_toArray, List.set_cons_zero, List.set_cons_succ, i64_w, i32_w]
        rfl
      refine take_ (i := 3) (N := some 34) (v := ?_) (a' := ?_) #[true, true, true, true, false, false, false] rfl rfl (take_ofW HT_.out HW_.out (by kernel_rfl)) (fun _ _ _ h => h) (Or.inl ⟨by rfl, ?_⟩) hHeld ?_ ?_
      rotate_left
      · rintro w' ⟨s0, s1, s2, s3, s4, s5⟩
        go_simp
        with_reducible rfl
      rotate_left
      · simp only [Act.put, List.setIfInBounds_toArray, List.set_cons_zero, List.set_cons_succ, i64_w, i32_w]
        rfl
      refine take_ (i := 4) (N := some 35) (v := ?_) (a' := ?_) #[true, true, true, true, true, false, false] rfl rfl (take_ofW HT_.out HW_.out (by kernel_rfl)) (fun _ _ _ h => h) (Or.inl ⟨by rfl, ?_⟩) hHeld ?_ ?_
      rotate_left
      · rintro w' ⟨s0, s1, s2, s3, s4, s5⟩
        go_simp
        with_reducible rfl
      rotate_left
      · simp only [Act.put, List.setIfInBounds_toArray, List.set_cons_zero, List.set_cons_succ, i64_w, i32_w]
        rfl
      refine take_ (i := 5) (N := some 36) (v := ?_) (a' := ?_) #[true, true, true, true, true, true, false] rfl rfl (take_ofW HT_.out HW_.out (by kernel_rfl)) (fun _ _ _ h => h) (Or.inl ⟨by rfl, ?_⟩) hHeld ?_ ?_
      rotate_left
      · rintro w' ⟨s0, s1, s2, s3, s4, s5⟩
        go_simp
        with_reducible rfl
      rotate_left
      · simp only [Act.put, List.setIfInBounds_toArray, List.set_cons_zero, List.set_cons_succ, i64_w, i32_w]
        rfl
      refine one_ (i := 6) (N := none) #[true, true, true, true, true, true, true] rfl rfl (one_of HT_.out (by kernel_rfl)) (by decide) (fun K hK => ?_)
      refine upd_step (by rfl) _ _ _ 70 rfl 75 77 law75 Try.underlying70 m N1 (mixF f g left) rfl H7.out.acc (by have := HN.out; unfold maxLen; omega) _ (.agg #[.int .i64 fl, .int .i64 (bal + xk), .int .i64 0]) kl rfl rfl hkey.out (fun w8 hM hg => ?_)
      rw [hst.out] at hM
      have H8 : Aside0 (Led w8 B p m (N1 + 1) (.slice Av n cv) n (mixF f g (fun z => left z && !z.sameKey kl))) := ⟨H7.out.turned hM hg⟩
      have M8 : Aside0 (Mod w w8 (fun k => k = m)) := ⟨M7.out.grown hg (fun j hj => .inl (by injection hj with hj; exact hj.symm))⟩
      have R8 : Aside0 (RangeIs w8 Try.prog 75 bc r 2 (chF k1 k2 x) (fun z => left z && !z.sameKey kl) cnt4) := ⟨R7.out.kept hg (fun e => hbc2.out (.inr (.inl (by injection e)))) (fun e => hrm.out (by injection e))⟩
      have K8 := Aside0.mk (blk_grown K7.out hg (fun e => hg9l.out (by injection e)))
      have L8 := Aside0.mk (blk_grown L7.out hg (fun e => hgal.out.1 (by injection e)))
      refine hK.out _ _ ⟨H8.out.cells.1, (box2 K8.out).1, (box2 K8.out).2, (box3 L8.out).1, (box3 L8.out).2.1, (box3 L8.out).2.2.1⟩ (fun hHeld => ?_)
      clear hK K
      refine done_ (done_of HT_.out (by kernel_rfl)) ?_
      clear H7 M7 R7 K7 L7 K8 L8 hM hg hHeld HT_ HW_
      go_wp2_with fail
      go_roundw
      case rel => exact ⟨_, _, _, _, _, _, _, _, _, _, _, _, _, _, _, _, _, _, _, _, _, _, _, _, _, ⟨_, cnt4, N1 + 1, R8, H8, ⟨by have := HN.out; have := hlt.out; omega⟩, M8⟩, rfl⟩
      case measure => rw [R8.out.left_eq, hm0.out]; exact hlt.out
end Go.Proofs.Ytaogmbiepbhmoaa.A

/- Ledger.Post walked: a payment that may be is booked. -/
import Derived.Test.YtaogmbiepbhmoaaBook
namespace Go.Proofs.Ytaogmbiepbhmoaa.A
open Go.RowKit Go.Lib Go.Maps ScKit Go.Proofs.YtaogmbiepbhmoaaW.PrintWords Go.Proofs.YtaogmbiepbhmoaaW.PrintLast Go.Proofs.YtaogmbiepbhmoaaW.PrintMore
set_option linter.unusedVariables false
set_option linter.unusedSimpArgs false

def ledPost.T8 : Bool × List (List Nat × List Nat) := (true, [([], []), ([], []), ([1], [1]), ([], []), ([3], [3]), ([2, 4], [2, 4]), ([0, 5], [0, 5]), ([], []), ([7], [7]), ([6, 8], [6, 8]), ([0, 5, 0, 1, 2, 3, 4, 5, 7, 8], [0, 5]), ([10], [10]), ([0, 11, 9, 10, 0, 1, 2, 3, 4, 5, 6, 7, 8, 9, 10, 11], [0, 9, 11])])
def ledPost.B8 : List Nat := [0, 0, 2, 0, 8, 30, 63, 0, 128, 511, 447, 1471, 4095]
theorem ledPost.tab8 : rtab .any (opsOf Try.f18 8) = ledPost.T8 := by kernel_rfl
theorem ledPost.bits8 : waitsOk ledPost.T8.2 ledPost.B8 = true := by kernel_rfl
def ledPost.T14 : Bool × List (List Nat × List Nat) := (true, [([], []), ([0], [0]), ([1], [1]), ([2], [2]), ([], []), ([3, 4], [3, 4]), ([], []), ([6, 5, 0, 1, 2, 3, 4, 5, 6], [5, 6])])
def ledPost.B14 : List Nat := [0, 1, 3, 7, 0, 31, 0, 127]
theorem ledPost.tab14 : rtab .any (opsOf Try.f18 14) = ledPost.T14 := by kernel_rfl
theorem ledPost.bits14 : waitsOk ledPost.T14.2 ledPost.B14 = true := by kernel_rfl

set_option maxHeartbeats 4000000 in
theorem free_calls (fl bal : Int) (h0 : -1099511627776 ≤ fl) (h1 : fl ≤ 0) (h2 : fl ≤ bal) (h3 : bal ≤ 1099511627776) (w : World) :
    Calls Try.prog 35 #[.agg #[.int .i64 fl, .int .i64 bal, .int .i64 0]] w fun e w' => e = .returned (.int .i64 (bal - fl)) ∧ Below w.heap.size w w' := by
  have e1 : wrap64 bal = bal := by unfold wrap64; omega
  have e2 : wrap64 (bal - fl) = bal - fl := by unfold wrap64; omega
  go_enter Try.func35, Try.ntmps35
  go_wp2_with fail
  go_ret
  exact ⟨rfl, (Below.refl _ _).alloc (Nat.le_refl _) _⟩
/-- The changes of a payment's first k entries. -/
noncomputable def chK (k1 k2 : Lit) (x : Int) : Nat → Lit → Option Value
  | 0 => fun _ => none
  | 1 => upd (fun _ => none) k1 (.int .i64 (-x))
  | _ => chF k1 k2 x
theorem chK_old {k1 k2 : Lit} (hne : k1 ≠ k2) (x : Int) (k : Nat) (hk : k < 2) : (chK k1 k2 x k (if k = 0 then k1 else k2)).getD (.int .i64 0) = .int .i64 0 := by
  match k, hk with
  | 0, _ => rfl
  | 1, _ =>
    show (upd (fun _ => none) k1 (.int .i64 (-x)) k2).getD _ = _
    rw [upd_ne _ _ (Ne.symm hne)]; rfl
theorem chK_new (k1 k2 : Lit) (x : Int) (k : Nat) (hk : k < 2) : upd (chK k1 k2 x k) (if k = 0 then k1 else k2) (.int .i64 (if k = 0 then -x else x)) = chK k1 k2 x (k + 1) := by
  match k, hk with
  | 0, _ => rfl
  | 1, _ => rfl

set_option maxHeartbeats 8000000 in
set_option maxRecDepth 100000 in
theorem post_calls {w : World} {B p m N n : Nat} {v : Value} {f : Lit → Option Value} (hL : Led w B p m N v n f) (hn : n < 1000) (hN : N < 500) (text : ByteArray) (ht : text.size ≤ 100) (n1 n2 : ByteArray) (k1 k2 : Lit) (fl1 bal1 fl2 bal2 x : Int) (hP : Pay f n1 n2 k1 k2 fl1 bal1 fl2 bal2 x) (X : Option Addr) (cx : Nat) (hcx : 2 ≤ cx) (hX : Kd.C k54 w X 2 (ents n1 n2 x)) (hXo : ∀ ad, X = some ad → ¬ Own p m v ad.block) :
    Calls Try.prog 18 #[.pointer (some ⟨p, 0, none⟩), .string text, .slice X 2 cx] w fun e w' => ∃ v', e = .returned (.tuple #[.int .i64 (n + 1), .int .i64 0]) ∧ Led w' B p m (N + 2) v' (n + 1) (newF f k1 k2 fl1 bal1 fl2 bal2 x) ∧ Mod w w' (Own p m v) ∧ (v'.ownBlock = v.ownBlock ∨ ∃ b, v'.ownBlock = some b ∧ w.heap.size ≤ b) := by
  have HL0 := Aside0.mk hL
  have HX := Aside0.mk hX
  have HP := Aside0.mk hP
  have hown := Aside0.mk hL.lt
  clear hL hX hP
  have hmm := @run_makeMap Try.prog
  go_enter Try.func18, Try.ntmps18
  go_wp2_with fail
  refine (wrong_calls HL0.out hn text ht n1 n2 k1 k2 HP.out.h1 HP.out.h2 fl1 bal1 fl2 bal2 HP.out.f1 HP.out.f2 x (by have := HP.out.x0; omega) HP.out.x1 X cx HX.out).mono ?_
  rintro e w1 ⟨rfl, hB1⟩
  have HB1 := Aside0.mk hB1
  clear hB1
  go_wp2_with fail
  have HM0 : Aside0 (MapIs (w1.alloc (.map #[] 0)) Try.prog 75 w1.heap.size 0 (chK k1 k2 x 0)) := ⟨MapIs.made w1 Try.prog 75⟩
  have HB0 : Aside0 (Below w.heap.size w (w1.alloc (.map #[] 0))) := ⟨below_alloc HB1.out _⟩
  have hbw : Aside0 (w.heap.size ≤ w1.heap.size) := ⟨HB1.out.size⟩
  obtain ⟨bc, hb⟩ : ∃ b, b = w1.heap.size := ⟨_, rfl⟩
  rw [← hb] at HM0 hbw ⊢
  clear hb HB1
  go_loopw [26] (fun i wr => ∃ k : Nat, k ≤ 2 ∧ i = .int .i64 k ∧ Aside0 (MapIs wr Try.prog 75 bc k (chK k1 k2 x k)) ∧ Aside0 (Below w.heap.size w wr))
    (fun i _ => 2 - (intOf i).toNat)
  case atStart => exact ⟨0, by omega, rfl, HM0, HB0⟩
  case round =>
    obtain ⟨k, hk, rfl, HM, HB⟩ := hrel
    by_cases hlt : k < 2
    · obtain ⟨ad, e, hx0, hx1, hx2⟩ := at_T54 HX.out (k : Int) (by omega) (by omega)
      cases e
      rw [ents_at n1 n2 x k hlt] at hx0 hx1 hx2
      simp only [Int.toNat_natCast] at hx0 hx1 hx2
      replace hx0 := cellB HB.out hx0
      replace hx1 := cellB HB.out hx1
      replace hx2 := cellB HB.out hx2
      have hfk := chK_old HP.out.ne x k hlt
      have hnew := Aside0.mk (chK_new k1 k2 x k hlt)
      have hkk : keyOf Try.prog 75 (.agg #[.string (if k = 0 then n1 else n2), .string EUR]) = some (if k = 0 then k1 else k2) := by
        split
        · exact HP.out.h1
        · exact HP.out.h2
      obtain ⟨nk, hnk⟩ : ∃ nk, nk = (if k = 0 then n1 else n2) := ⟨_, rfl⟩
      obtain ⟨xk, hxk⟩ : ∃ xk, xk = (if k = 0 then -x else x) := ⟨_, rfl⟩
      obtain ⟨kl, hkl⟩ : ∃ kl, kl = (if k = 0 then k1 else k2) := ⟨_, rfl⟩
      rw [← hnk] at hx0 hkk
      rw [← hkl] at hkk hfk hnew
      rw [← hxk] at hx2 hnew
      have hxw : wrap64 xk = xk := by have := HP.out.x0; have := HP.out.x1; rw [hxk]; unfold wrap64; split <;> omega
      clear hnk hxk hkl
      replace hkk := Aside0.mk hkk
      replace hfk := Aside0.mk hfk
      have hk2 : (k : Int) < 2 := by omega
      go_wp2_with fail
      have M5 : Aside0 (MapIs (wr.alloc (.cells #[.string nk, .string EUR, .int .i64 xk] 54)).drew Try.prog 75 bc k (chK k1 k2 x k)) := ⟨mapBlk (HM.out.alloc (.cells #[.string nk, .string EUR, .int .i64 xk] 54)) rfl⟩
      have B5 : Aside0 (Below w.heap.size w (wr.alloc (.cells #[.string nk, .string EUR, .int .i64 xk] 54)).drew) := ⟨(below_alloc HB.out _).drew⟩
      have K5 := Aside0.mk (blk_drew (blk_new wr (.cells #[.string nk, .string EUR, .int .i64 xk] 54)))
      obtain ⟨ga, hga⟩ : ∃ ga, ga = wr.heap.size := ⟨_, rfl⟩
      have hgb : Aside0 (ga ≠ bc) := ⟨by have := HM.out.lt; omega⟩
      rw [← hga] at K5 ⊢
      clear hga HM HB
      have R0 := run_lookup law75 Try.underlying82 zero2 M5.out hkk.out hfk.out
      refine start_ (n := 13) (S := fun w' => w'.cell? ⟨ga, 0, none⟩ = some (.string nk) ∧ w'.cell? ⟨ga, 1, none⟩ = some (.string EUR) ∧ w'.cell? ⟨ga, 2, none⟩ = some (.int .i64 xk) ∧ (Instr.lookup 82 (.map (some bc)) (.agg #[.string nk, .string EUR]) false).run Try.prog w' = .ok (.int .i64 0) w') (ds := [12]) #[false, false, false, false, false, false, false, false, false, false, false, false, false] (by kernel_rfl) rfl rfl ⟨(box3 K5.out).1, (box3 K5.out).2.1, (box3 K5.out).2.2.1, R0⟩ (fun hHeld => ?_)
      refine with_tabW ledPost.tab8 ledPost.bits8 (fun HT_ HW_ => ?_)
      generalize (wr.alloc (.cells #[.string nk, .string EUR, .int .i64 xk] 54)).drew = w2 at M5 B5 K5 hHeld ⊢
      clear R0
      refine pure_ (i := 0) (N := some 30) (v := ?_) (a' := ?_) #[true, false, false, false, false, false, false, false, false, false, false, false, false] rfl rfl (any_of HT_.out (by kernel_rfl)) (fun _ _ _ h => h) (Or.inl ⟨by rfl, ?_⟩) ?_ ?_
      rotate_left
      · intro w'
        go_simp
        with_reducible rfl
      rotate_left
      · simp only [Act.put, List.setIfInBounds_toArray, List.set_cons_zero, List.set_cons_succ, i64_w, i32_w]
        rfl
      refine pure_ (i := 1) (N := some 31) (v := ?_) (a' := ?_) #[true, true, false, false, false, false, false, false, false, false, false, false, false] rfl rfl (any_of HT_.out (by kernel_rfl)) (fun _ _ _ h => h) (Or.inl ⟨by rfl, ?_⟩) ?_ ?_
      rotate_left
      · intro w'
        go_simp
        with_reducible rfl
      rotate_left
      · simp only [Act.put, List.setIfInBounds_toArray, List.set_cons_zero, List.set_cons_succ, i64_w, i32_w]
        rfl
      refine take_ (i := 2) (N := some 32) (v := ?_) (a' := ?_) #[true, true, true, false, false, false, false, false, false, false, false, false, false] rfl rfl (take_ofW HT_.out HW_.out (by kernel_rfl)) (fun _ _ _ h => h) (Or.inl ⟨by rfl, ?_⟩) hHeld ?_ ?_
      rotate_left
      · rintro w' ⟨s0, s1, s2, s3⟩
        go_simp
        with_reducible rfl
      rotate_left
      · simp only [Act.put, List.setIfInBounds_toArray, List.set_cons_zero, List.set_cons_succ, i64_w, i32_w]
        rfl
      refine pure_ (i := 3) (N := some 33) (v := ?_) (a' := ?_) #[true, true, true, true, false, false, false, false, false, false, false, false, false] rfl rfl (any_of HT_.out (by kernel_rfl)) (fun _ _ _ h => h) (Or.inl ⟨by rfl, ?_⟩) ?_ ?_
      rotate_left
      · intro w'
        go_simp
        with_reducible rfl
      rotate_left
      · simp only [Act.put, List.setIfInBounds_toArray, List.set_cons_zero, List.set_cons_succ, i64_w, i32_w]
        rfl
      refine take_ (i := 4) (N := some 34) (v := ?_) (a' := ?_) #[true, true, true, true, true, false, false, false, false, false, false, false, false] rfl rfl (take_ofW HT_.out HW_.out (by kernel_rfl)) (fun _ _ _ h => h) (Or.inl ⟨by rfl, ?_⟩) hHeld ?_ ?_
      rotate_left
      · rintro w' ⟨s0, s1, s2, s3⟩
        go_simp
        with_reducible rfl
      rotate_left
      · simp only [Act.put, List.setIfInBounds_toArray, List.set_cons_zero, List.set_cons_succ, i64_w, i32_w]
        rfl
      refine pure_ (i := 5) (N := some 35) (v := ?_) (a' := ?_) #[true, true, true, true, true, true, false, false, false, false, false, false, false] rfl rfl (any_of HT_.out (by kernel_rfl)) (fun _ _ _ h => h) (Or.inl ⟨by rfl, ?_⟩) ?_ ?_
      rotate_left
      · intro w'
        go_simp
        with_reducible rfl
      rotate_left
      · simp only [Act.put, List.setIfInBounds_toArray, List.set_cons_zero, List.set_cons_succ, i64_w, i32_w]
        rfl
      refine take_ (i := 6) (N := some 36) (v := ?_) (a' := ?_) #[true, true, true, true, true, true, true, false, false, false, false, false, false] rfl rfl (take_ofW HT_.out HW_.out (by kernel_rfl)) (fun _ _ _ h => h) (Or.inl ⟨by rfl, ?_⟩) hHeld ?_ ?_
      rotate_left
      · rintro w' ⟨s0, s1, s2, s3⟩
        go_simp
        with_reducible rfl
      rotate_left
      · simp only [Act.put, List.setIfInBounds_toArray, List.set_cons_zero, List.set_cons_succ, i64_w, i32_w]
        rfl
      refine pure_ (i := 7) (N := some 37) (v := ?_) (a' := ?_) #[true, true, true, true, true, true, true, true, false, false, false, false, false] rfl rfl (any_of HT_.out (by kernel_rfl)) (fun _ _ _ h => h) (Or.inl ⟨by rfl, ?_⟩) ?_ ?_
      rotate_left
      · intro w'
        go_simp
        with_reducible rfl
      rotate_left
      · simp only [Act.put, List.setIfInBounds_toArray, List.set_cons_zero, List.set_cons_succ, i64_w, i32_w]
        rfl
      refine take_ (i := 8) (N := some 38) (v := ?_) (a' := ?_) #[true, true, true, true, true, true, true, true, true, false, false, false, false] rfl rfl (take_ofW HT_.out HW_.out (by kernel_rfl)) (fun _ _ _ h => h) (Or.inl ⟨by rfl, ?_⟩) hHeld ?_ ?_
      rotate_left
      · rintro w' ⟨s0, s1, s2, s3⟩
        go_simp
        with_reducible rfl
      rotate_left
      · simp only [Act.put, List.setIfInBounds_toArray, List.set_cons_zero, List.set_cons_succ, i64_w, i32_w]
        rfl
      refine pure_ (i := 9) (N := some 39) (v := ?_) (a' := ?_) #[true, true, true, true, true, true, true, true, true, true, false, false, false] rfl rfl (any_of HT_.out (by kernel_rfl)) (fun _ _ _ h => h) (Or.inl ⟨by rfl, ?_⟩) ?_ ?_
      rotate_left
      · intro w'
        go_simp
        with_reducible rfl
      rotate_left
      · simp only [Act.put, List.setIfInBounds_toArray, List.set_cons_zero, List.set_cons_succ, i64_w, i32_w]
        rfl
      refine one_ (i := 10) (N := some 40) #[true, true, true, true, true, true, true, true, true, true, true, false, false] rfl rfl (one_of HT_.out (by kernel_rfl)) (by decide) (fun K hK => ?_)
      obtain ⟨v0, st, w3, hent, hg3, ⟨f3, hM3, hf3⟩, hst⟩ := run_entry law75 Try.underlying82 zero2 M5.out (by unfold maxLen; omega) hkk.out
      have B6 : Aside0 (Below w.heap.size w w3) := ⟨B5.out.grown hg3 B5.out.size (fun j hj => by injection hj with hj; rw [← hj]; exact hbw.out)⟩
      have K6 := Aside0.mk (blk_grown K5.out hg3 (fun e => hgb.out (by injection e)))
      have R6 := run_lookup law75 Try.underlying82 zero2 hM3 hkk.out (hf3.trans hfk.out)
      refine entry_step (by rfl) _ _ 82 rfl bc _ rfl rfl hent ?_
      refine hK.out _ _ ⟨(box3 K6.out).1, (box3 K6.out).2.1, (box3 K6.out).2.2.1, R6⟩ (fun hHeld => ?_)
      clear hK K
      refine norm_ (a' := ?_) ?_ ?_
      rotate_left
      · show Act.put _ (some 40) _ = _
        simp only [Act.put, List.setIfInBounds_toArray, List.set_cons_zero, List.set_cons_succ, i64_w, i32_w]
        rfl
      refine pure_ (i := 11) (N := some 41) (v := ?_) (a' := ?_) #[true, true, true, true, true, true, true, true, true, true, true, true, false] rfl rfl (any_of HT_.out (by kernel_rfl)) (fun _ _ _ h => h) (Or.inl ⟨by rfl, ?_⟩) ?_ ?_
      rotate_left
      · intro w'
        go_simp
        with_reducible rfl
      rotate_left
      · simp only [Act.put, List.setIfInBounds_toArray, List.set_cons_zero, List.set_cons_succ, i64_w, i32_w]
        rfl
      refine last_ (i := 12) (N := none) #[true, true, true, true, true, true, true, true, true, true, true, true, true] rfl rfl (one_of HT_.out (by kernel_rfl)) (by decide) (fun K hK => ?_)
      obtain ⟨w7, hest, hg7, hM7⟩ := hst w3 (.int .i64 (wrap64 xk)) rfl
      refine estore_step (by rfl) _ _ _ 82 rfl bc (.int .i64 st) (.int .i64 (wrap64 xk)) rfl rfl rfl hest ?_
      rw [hxw, hnew.out] at hM7
      have M7 : Aside0 (MapIs w7 Try.prog 75 bc (k + 1) (chK k1 k2 x (k + 1))) := ⟨hM7⟩
      have B7 : Aside0 (Below w.heap.size w w7) := ⟨B6.out.grown hg7 B6.out.size (fun j hj => by injection hj with hj; rw [← hj]; exact hbw.out)⟩
      refine hK.out _ _ ?_
      clear hK K
      refine done_ (done_of HT_.out (by kernel_rfl)) ?_
      clear hent hg3 hM3 hf3 hst hest hg7 hM7 R6 K6 K5 B6 B5 M5 hHeld HT_ HW_
      go_wp2_with fail
      go_roundw
      case rel => exact ⟨k + 1, by omega, by go_num, M7, B7⟩
      case measure => simp [intOf]; omega
    · obtain rfl : k = 2 := by omega
      go_wp2_with (first
        | (at_range; refine wp_range _ rfl _ 82 rfl 75 2 law75 Try.underlying82 bc 2 (chK k1 k2 x 2) rfl HM.out ?_)
        | fail)
      intro w1 cnt hR hcnt hg1 hs1
      have HR := Aside0.mk hR
      have HB1 : Aside0 (Below w.heap.size w w1) := ⟨HB.out.grown hg1 HB.out.size (fun _ h => by cases h)⟩
      have hrl : Aside0 (w.heap.size ≤ wr.heap.size) := ⟨HB.out.size⟩
      obtain ⟨r, hr⟩ : ∃ r, r = wr.heap.size := ⟨_, rfl⟩
      rw [← hr] at HR hrl ⊢
      clear hR hg1 hs1 hr HB HM
      go_wp2_with fail
      go_loopw [12] (fun u wr => u = .bool false ∧ ∃ left cnt, Aside0 (RangeIs wr Try.prog 75 bc r 2 (chK k1 k2 x 2) left cnt) ∧ Aside0 (Below w.heap.size w wr))
        (fun _ wr => wr.rangeLeft bc r)
      case atStart => exact ⟨rfl, _, cnt, HR, HB1⟩
      case round =>
        obtain ⟨rfl, left, cnt, HR, HB⟩ := hrel
        have hm0 := Aside0.mk HR.out.left_eq
        go_wp2_with (first
          | (at_next; refine wp_next _ rfl _ rfl 75 law75 bc r 2 (chK k1 k2 x 2) left cnt rfl HR.out ?_ ?_)
          | fail)
        · intro hc hl
          have HL2 := Aside0.mk (HL0.out.below HB.out)
          have HX2 := Aside0.mk (Kd.C_below HX.out HB.out)
          have HC2 : Aside0 (MapIs wr Try.prog 75 bc 2 (chF k1 k2 x)) := ⟨HR.out.owns⟩
          clear HR
          go_wp2_with fail
          refine (book_calls HL2.out hn hN text n1 n2 k1 k2 fl1 bal1 fl2 bal2 x HP.out X cx hcx HX2.out hXo bc (fun h => by have := hown.out bc h; have := hbw.out; omega) HC2.out).mono ?_
          rintro e w5 ⟨v', rfl, hL5, hM5, hv5⟩
          have L5 := Aside0.mk hL5
          have M5 : Aside0 (Mod w w5 (Own p m v)) := ⟨(Mod.of_below HB.out _).trans hM5 (fun _ h => .inl h)⟩
          have V5 : Aside0 (v'.ownBlock = v.ownBlock ∨ ∃ b, v'.ownBlock = some b ∧ w.heap.size ≤ b) := ⟨hv5.imp id (fun ⟨b, e, h⟩ => ⟨b, e, Nat.le_trans HB.out.size h⟩)⟩
          clear hL5 hM5 hv5 HL2 HX2 HC2
          go_wp2_with fail
          go_ret2
          exact ⟨v', rfl, L5.out, M5.out, V5.out⟩
        · intro key v9 kl w4 cnt4 hkey hlk hfv hR4 hlt hg4 hs4 hen
          obtain ⟨nk, xk, fl, bal, rfl, rfl, hf0, _, b1, b2, b3, b4, b5, b6, b7, b8⟩ := pay_at HP.out hkey hfv
          have HR4 := Aside0.mk hR4
          have HB4 : Aside0 (Below w.heap.size w w4) := ⟨HB.out.grown hg4 HB.out.size (fun j hj => by injection hj with hj; rw [← hj]; exact hrl.out)⟩
          have HL := HL0
          replace hf0 := Aside0.mk hf0
          replace hkey := Aside0.mk hkey
          replace hlt := Aside0.mk hlt
          clear hR4 hfv hlk hg4 hs4 HR HB
          go_wp2_with fail
          have H5 : Aside0 (Led (w4.alloc (.cells #[.string nk, .string EUR] 75)).drew B p m N v n f) := ⟨HL.out.below (below_alloc HB4.out _).drew⟩
          have B5 : Aside0 (Below w.heap.size w (w4.alloc (.cells #[.string nk, .string EUR] 75)).drew) := ⟨(below_alloc HB4.out _).drew⟩
          have R5 : Aside0 (RangeIs (w4.alloc (.cells #[.string nk, .string EUR] 75)).drew Try.prog 75 bc r 2 (chK k1 k2 x 2) (fun z => left z && !z.sameKey kl) cnt4) := ⟨(HR4.out.alloc _).drewN 1⟩
          have K5 := Aside0.mk (blk_drew (blk_new w4 (.cells #[.string nk, .string EUR] 75)))
          obtain ⟨C1, C2⟩ := box2 K5.out
          have C0 := H5.out.cells.1
          have R0 := run_lookup law75 Try.underlying70 zero77 H5.out.acc hkey.out (v := .agg #[.int .i64 fl, .int .i64 bal, .int .i64 0]) (by rw [hf0.out]; rfl)
          obtain ⟨g9, hg9⟩ : ∃ g9, g9 = w4.heap.size := ⟨_, rfl⟩
          rw [← hg9] at K5 C1 C2 ⊢
          clear hg9 HB4 HR4
          refine start_ (n := 8) (S := fun w' => w'.cell? ⟨p, 1, none⟩ = some (.map (some m)) ∧ w'.cell? ⟨g9, 0, none⟩ = some (.string nk) ∧ w'.cell? ⟨g9, 1, none⟩ = some (.string EUR) ∧ (Instr.lookup 70 (.map (some m)) (.agg #[.string nk, .string EUR]) false).run Try.prog w' = .ok (.agg #[.int .i64 fl, .int .i64 bal, .int .i64 0]) w') (ds := []) #[false, false, false, false, false, false, false, false] (by kernel_rfl) rfl rfl ⟨C0, C1, C2, R0⟩ (fun hHeld => ?_)
          refine with_tabW ledPost.tab14 ledPost.bits14 (fun HT_ HW_ => ?_)
          generalize World.drew _ = w2 at H5 B5 R5 K5 hHeld ⊢
          refine pure_ (i := 0) (N := some 50) (v := ?_) (a' := ?_) #[true, false, false, false, false, false, false, false] rfl rfl (any_of HT_.out (by kernel_rfl)) (fun _ _ _ h => h) (Or.inl ⟨by rfl, ?_⟩) ?_ ?_
          rotate_left
          · intro w'
            go_simp
            with_reducible rfl
          rotate_left
          · simp only [Act.put, List.setIfInBounds_toArray, List.set_cons_zero, List.set_cons_succ, i64_w, i32_w]
            rfl
          refine pure_ (i := 1) (N := some 51) (v := ?_) (a' := ?_) #[true, true, false, false, false, false, false, false] rfl rfl (any_of HT_.out (by kernel_rfl)) (fun _ _ _ h => h) (Or.inl ⟨by rfl, ?_⟩) ?_ ?_
          rotate_left
          · intro w'
            go_simp
            with_reducible rfl
          rotate_left
          · simp only [Act.put, List.setIfInBounds_toArray, List.set_cons_zero, List.set_cons_succ, i64_w, i32_w]
            rfl
          refine pure_ (i := 2) (N := some 52) (v := ?_) (a' := ?_) #[true, true, true, false, false, false, false, false] rfl rfl (any_of HT_.out (by kernel_rfl)) (fun _ _ _ h => h) (Or.inl ⟨by rfl, ?_⟩) ?_ ?_
          rotate_left
          · intro w'
            go_simp
            with_reducible rfl
          rotate_left
          · simp only [Act.put, List.setIfInBounds_toArray, List.set_cons_zero, List.set_cons_succ, i64_w, i32_w]
            rfl
          refine take_ (i := 3) (N := some 53) (v := ?_) (a' := ?_) #[true, true, true, true, false, false, false, false] rfl rfl (take_ofW HT_.out HW_.out (by kernel_rfl)) (fun _ _ _ h => h) (Or.inl ⟨by rfl, ?_⟩) hHeld ?_ ?_
          rotate_left
          · rintro w' ⟨s0, s1, s2, s3⟩
            go_simp
            with_reducible rfl
          rotate_left
          · simp only [Act.put, List.setIfInBounds_toArray, List.set_cons_zero, List.set_cons_succ, i64_w, i32_w]
            rfl
          refine take_ (i := 4) (N := some 54) (v := ?_) (a' := ?_) #[true, true, true, true, true, false, false, false] rfl rfl (take_ofW HT_.out HW_.out (by kernel_rfl)) (fun _ _ _ h => h) (Or.inl ⟨by rfl, ?_⟩) hHeld ?_ ?_
          rotate_left
          · rintro w' ⟨s0, s1, s2, s3⟩
            go_simp
            with_reducible rfl
          rotate_left
          · simp only [Act.put, List.setIfInBounds_toArray, List.set_cons_zero, List.set_cons_succ, i64_w, i32_w]
            rfl
          refine take_ (i := 5) (N := some 55) (v := ?_) (a' := ?_) #[true, true, true, true, true, true, false, false] rfl rfl (take_ofW HT_.out HW_.out (by kernel_rfl)) (fun _ _ _ h => h) (Or.inl ⟨by rfl, ?_⟩) hHeld ?_ ?_
          rotate_left
          · rintro w' ⟨s0, s1, s2, s3⟩
            go_simp
            with_reducible rfl
          rotate_left
          · simp only [Act.put, List.setIfInBounds_toArray, List.set_cons_zero, List.set_cons_succ, i64_w, i32_w]
            rfl
          refine one_ (i := 6) (N := some 15) #[true, true, true, true, true, true, true, false] rfl rfl (one_of HT_.out (by kernel_rfl)) (by decide) (fun K hK => ?_)
          have R2 := run_lookup law75 Try.underlying70 zero77 (H5.out.below (below_alloc (Below.refl _ _) (.cells #[.int .i64 0, .int .i64 0, .int .i64 0] 77))).acc hkey.out (v := .agg #[.int .i64 fl, .int .i64 bal, .int .i64 0]) (by rw [hf0.out]; rfl)
          refine event_step (v := .pointer (some ⟨w2.heap.size, 0, none⟩)) (w1 := w2.alloc (.cells #[.int .i64 0, .int .i64 0, .int .i64 0] 77)) (by rfl) (by first | (go_simp; done) | (go_simp; rfl)) ?_
          refine hK.out _ _ ⟨(H5.out.below (below_alloc (Below.refl _ _) _)).cells.1, (box2 (blk_alloc K5.out _)).1, (box2 (blk_alloc K5.out _)).2, R2⟩ (fun hHeld => ?_)
          clear hK K
          refine norm_ (a' := ?_) ?_ ?_
          rotate_left
          · show Act.put _ (some 15) _ = _
            simp only [Act.put, List.setIfInBounds_toArray, List.set_cons_zero, List.set_cons_succ, i64_w, i32_w]
            rfl
          refine one_ (i := 7) (N := none) #[true, true, true, true, true, true, true, true] rfl rfl (one_of HT_.out (by kernel_rfl)) (by decide) (fun K hK => ?_)
          have H6 : Aside0 (Led (w2.alloc (.cells #[.int .i64 fl, .int .i64 bal, .int .i64 0] 77)) B p m N v n f) := ⟨H5.out.below (below_alloc (Below.refl _ _) _)⟩
          have B6 : Aside0 (Below w.heap.size w (w2.alloc (.cells #[.int .i64 fl, .int .i64 bal, .int .i64 0] 77))) := ⟨below_alloc B5.out _⟩
          have R6 : Aside0 (RangeIs (w2.alloc (.cells #[.int .i64 fl, .int .i64 bal, .int .i64 0] 77)) Try.prog 75 bc r 2 (chK k1 k2 x 2) (fun z => left z && !z.sameKey kl) cnt4) := ⟨R5.out.alloc _⟩
          have K6 := Aside0.mk (blk_alloc K5.out (.cells #[.int .i64 fl, .int .i64 bal, .int .i64 0] 77))
          have L6 := Aside0.mk (blk_new w2 (.cells #[.int .i64 fl, .int .i64 bal, .int .i64 0] 77))
          have R3 := run_lookup law75 Try.underlying70 zero77 H6.out.acc hkey.out (v := .agg #[.int .i64 fl, .int .i64 bal, .int .i64 0]) (by rw [hf0.out]; rfl)
          rw [if_pos (by rfl)]
          unfold Oper.wp
          go_simp
          refine hK.out _ _ ⟨H6.out.cells.1, (box2 K6.out).1, (box2 K6.out).2, R3⟩ (fun hHeld => ?_)
          clear hK K
          refine done_ (done_of HT_.out (by kernel_rfl)) ?_
          generalize hw3 : w2.alloc (.cells #[.int .i64 fl, .int .i64 bal, .int .i64 0] 77) = w3 at H6 B6 R6 K6 L6 ⊢
          obtain ⟨ga, hga⟩ : ∃ ga, ga = w2.heap.size := ⟨_, rfl⟩
          rw [← hga] at L6 ⊢
          clear hga H5 B5 R5 K5 K6 hHeld HT_ HW_ R0 R2 R3 C0 C1 C2 hw3
          obtain ⟨l0, l1, l2, z0, z1, z2⟩ := box3 L6.out
          have q1 : decide (1099511627776 < bal + xk) = false := by rw [decide_eq_false_iff_not]; omega
          have q2 : wrap64 (bal + xk) = bal + xk := by unfold wrap64; omega
          by_cases hneg : xk < 0
          · have q3 : decide (xk < 0) = true := by rw [decide_eq_true_eq]; exact hneg
            have q4 : decide (bal - fl < -xk) = false := by rw [decide_eq_false_iff_not]; omega
            have q5 : wrap64 (-xk) = -xk := by unfold wrap64; omega
            go_wp2_with fail
            refine (free_calls fl bal b1 b2 b3 b4 _).mono ?_
            rintro e w5 ⟨rfl, hB5⟩
            have B7 : Aside0 (Below w.heap.size w w5) := ⟨below_step B6.out hB5⟩
            have R7 : Aside0 (RangeIs w5 Try.prog 75 bc r 2 (chK k1 k2 x 2) (fun z => left z && !z.sameKey kl) cnt4) := ⟨R6.out.below hB5 R6.out.owns.lt R6.out.lt⟩
            clear hB5 R6 B6 H6 L6
            go_wp2_with fail
            go_roundw
            case rel => exact ⟨rfl, _, cnt4, R7, B7⟩
            case measure => rw [R7.out.left_eq, hm0.out]; exact hlt.out
          · have q3 : decide (xk < 0) = false := by rw [decide_eq_false_iff_not]; exact hneg
            go_wp2_with fail
            go_roundw
            case rel => exact ⟨rfl, _, cnt4, R6, B6⟩
            case measure => rw [R6.out.left_eq, hm0.out]; exact hlt.out
end Go.Proofs.Ytaogmbiepbhmoaa.A

/- Ledger.wrong walked: two entries of a payment are fine. -/
import Derived.Test.YtaogmbiepbhmoaaLedger
namespace Go.Proofs.Ytaogmbiepbhmoaa.A
open Go.RowKit Go.Lib Go.Maps ScKit Go.Proofs.YtaogmbiepbhmoaaW.PrintWords Go.Proofs.YtaogmbiepbhmoaaW.PrintLast Go.Proofs.YtaogmbiepbhmoaaW.PrintMore
set_option linter.unusedVariables false
set_option linter.unusedSimpArgs false

def ledWrong.T8 : Bool × List (List Nat × List Nat) := (true, [([], []), ([0], [0]), ([1], [1]), ([2], [2]), ([], []), ([4], [4]), ([], []), ([6], [6]), ([5, 7], [5, 7]), ([3, 8], [3, 8]), ([9], [9]), ([10], [10]), ([10], [10]), ([], []), ([13, 11, 0, 1, 2, 3, 4, 5, 6, 7, 8, 9, 10, 11, 13], [11, 13]), ([12, 14, 0, 1, 2, 3, 4, 5, 6, 7, 8, 9, 10, 11, 12, 13, 14], [12])])
def ledWrong.B8 : List Nat := [0, 1, 3, 7, 0, 16, 0, 64, 240, 511, 1023, 2047, 2047, 0, 12287, 32767]
theorem ledWrong.tab8 : rtab .any (opsOf Try.f34 8) = ledWrong.T8 := by kernel_rfl
theorem ledWrong.bits8 : waitsOk ledWrong.T8.2 ledWrong.B8 = true := by kernel_rfl

/-- The two entries of a payment. -/
def ents (n1 n2 : ByteArray) (x : Int) : List S54 := [⟨n1, EUR, -x⟩, ⟨n2, EUR, x⟩]
theorem ents_at (n1 n2 : ByteArray) (x : Int) (k : Nat) (hk : k < 2) : rd_T54 (ents n1 n2 x) k = ⟨if k = 0 then n1 else n2, EUR, if k = 0 then -x else x⟩ := by
  match k, hk with
  | 0, _ => rfl
  | 1, _ => rfl
theorem keyE : keyOf Try.prog 9 (.string EUR) = some (.string EUR.data.toList) := by kernel_rfl
theorem zero2 : ∀ w, (zeroValue 2).run Try.prog w = .ok (.int .i64 0) w := fun w => by kernel_rfl
/-- What the sums of a payment's first k entries are. -/
noncomputable def sumF (x : Int) : Nat → Lit → Option Value
  | 0 => fun _ => none
  | 1 => upd (fun _ => none) (.string EUR.data.toList) (.int .i64 (-x))
  | _ => upd (upd (fun _ => none) (.string EUR.data.toList) (.int .i64 (-x))) (.string EUR.data.toList) (.int .i64 0)
theorem upd_same (f : Lit → Option Value) (k : Lit) (v : Value) : upd f k v k = some v := by simp [upd]
theorem upd_ne (f : Lit → Option Value) {k q : Lit} (v : Value) (h : q ≠ k) : upd f k v q = f q := by simp [upd, h]
theorem sumF_old (x : Int) (k : Nat) (hk : k < 2) : (sumF x k (.string EUR.data.toList)).getD (.int .i64 0) = .int .i64 (if k = 0 then 0 else -x) := by
  match k, hk with
  | 0, _ => rfl
  | 1, _ => show (upd (fun _ => none) _ _ _).getD _ = _; rw [upd_same]; rfl
theorem sumF_new (x : Int) (k : Nat) (hk : k < 2) : upd (sumF x k) (.string EUR.data.toList) (.int .i64 ((if k = 0 then 0 else -x) + (if k = 0 then -x else x))) = sumF x (k + 1) := by
  match k, hk with
  | 0, _ => show upd (fun _ => none) _ (.int .i64 (0 + -x)) = upd (fun _ => none) _ (.int .i64 (-x)); rw [Int.zero_add]
  | 1, _ => show upd (upd (fun _ => none) _ _) _ (.int .i64 (-x + x)) = upd (upd (fun _ => none) _ _) _ (.int .i64 0); rw [show -x + x = 0 by omega]
theorem sumF_all (x : Int) (kl : Lit) (v : Value) (h : sumF x 2 kl = some v) : v = .int .i64 0 := by
  replace h : upd (upd (fun _ => none) (.string EUR.data.toList) (.int .i64 (-x))) (.string EUR.data.toList) (.int .i64 0) kl = some v := h
  by_cases e : kl = .string EUR.data.toList
  · subst e; rw [upd_same] at h; exact (Option.some.inj h).symm
  · rw [upd_ne _ _ e, upd_ne _ _ e] at h; cases h

set_option maxHeartbeats 8000000 in
set_option maxRecDepth 100000 in
theorem wrong_calls {w : World} {B p m N n : Nat} {v : Value} {f : Lit → Option Value} (hL : Led w B p m N v n f) (hn : n < 1000) (text : ByteArray) (ht : text.size ≤ 100) (n1 n2 : ByteArray) (k1 k2 : Lit) (hk1 : keyOf Try.prog 75 (kv n1 EUR) = some k1) (hk2 : keyOf Try.prog 75 (kv n2 EUR) = some k2) (fl1 bal1 fl2 bal2 : Int) (hf1 : f k1 = some (acct fl1 bal1)) (hf2 : f k2 = some (acct fl2 bal2)) (x : Int) (h0 : 0 ≤ x) (h1 : x ≤ 1099511627776) (X : Option Addr) (cx : Nat) (hX : Kd.C k54 w X 2 (ents n1 n2 x)) :
    Calls Try.prog 34 #[.pointer (some ⟨p, 0, none⟩), .string text, .slice X 2 cx] w fun e w' => e = .returned (.int .i64 0) ∧ Below w.heap.size w w' := by
  have HL := Aside0.mk hL
  have HX := Aside0.mk hX
  have HK : Aside0 (∀ k : Nat, k < 2 → ∃ kl fl bal, keyOf Try.prog 75 (.agg #[.string (if k = 0 then n1 else n2), .string EUR]) = some kl ∧ f kl = some (.agg #[.int .i64 fl, .int .i64 bal, .int .i64 0])) := ⟨fun k hk => by
    match k, hk with
    | 0, _ => exact ⟨k1, fl1, bal1, hk1, hf1⟩
    | 1, _ => exact ⟨k2, fl2, bal2, hk2, hf2⟩⟩
  clear hL hX hk1 hk2 hf1 hf2
  have hmm := @run_makeMap Try.prog
  obtain ⟨_, c2, _⟩ := HL.out.cells
  obtain ⟨Av, cv, ev⟩ := HL.out.slice
  rw [ev] at c2
  have g0 : decide ((4096 : Int) < (text.size : Int)) = false := by rw [decide_eq_false_iff_not]; omega
  have g1 : decide ((4096 : Int) ≤ (n : Int)) = false := by rw [decide_eq_false_iff_not]; omega
  go_enter Try.func34, Try.ntmps34
  go_wp2_with fail
  clear c2 g0 g1
  go_loopw [37] (fun i wr => ∃ k : Nat, k ≤ 2 ∧ i = .int .i64 k ∧ Aside0 (Below w.heap.size w wr))
    (fun i _ => 2 - (intOf i).toNat)
  case atStart => exact ⟨0, by omega, rfl, ⟨Below.refl _ _⟩⟩
  case round =>
    obtain ⟨k, hk, rfl, HB⟩ := hrel
    by_cases hlt : k < 2
    · obtain ⟨ad, e, hx0, hx1, hx2⟩ := at_T54 HX.out (k : Int) (by omega) (by omega)
      cases e
      rw [ents_at n1 n2 x k hlt] at hx0 hx1 hx2
      simp only [Int.toNat_natCast] at hx0 hx1 hx2
      replace hx0 := cellB HB.out hx0
      replace hx1 := cellB HB.out hx1
      replace hx2 := cellB HB.out hx2
      obtain ⟨kl, fl, bal, hkk, hfk⟩ := HK.out k hlt
      obtain ⟨nk, hnk⟩ : ∃ nk, nk = (if k = 0 then n1 else n2) := ⟨_, rfl⟩
      obtain ⟨xk, hxk⟩ : ∃ xk, xk = (if k = 0 then -x else x) := ⟨_, rfl⟩
      rw [← hnk] at hx0 hkk
      rw [← hxk] at hx2
      clear hnk hxk
      replace hkk := Aside0.mk hkk
      replace hfk := Aside0.mk hfk
      have hk2 : (k : Int) < 2 := by omega
      go_wp2_with fail
      have HL1 : Aside0 (Led (wr.alloc (.cells #[.string nk, .string EUR, .int .i64 xk] 54)).drew B p m N v n f) := ⟨((HL.out.below HB.out).below (below_alloc (Below.refl _ _) _)).below ((Below.refl _ _).drew)⟩
      have HD1 : Aside0 (Below w.heap.size w (wr.alloc (.cells #[.string nk, .string EUR, .int .i64 xk] 54)).drew) := ⟨(below_alloc HB.out _).drew⟩
      have HK1 := Aside0.mk (blk_drew (blk_new wr (.cells #[.string nk, .string EUR, .int .i64 xk] 54)))
      obtain ⟨C1, C2, _, _⟩ := box3 HK1.out
      have C0 := HL1.out.cells.1
      have R0 := run_lookup_ok law75 Try.underlying70 zero77 HL1.out.acc hkk.out (v := .agg #[.int .i64 fl, .int .i64 bal, .int .i64 0]) (by rw [hfk.out]; rfl)
      rw [hfk.out] at R0
      simp only [Option.isSome_some] at R0
      refine start_ (n := 16) (S := fun w' => w'.cell? ⟨p, 1, none⟩ = some (.map (some m)) ∧ w'.cell? ⟨wr.heap.size, 0, none⟩ = some (.string nk) ∧ w'.cell? ⟨wr.heap.size, 1, none⟩ = some (.string EUR) ∧ (Instr.lookup 70 (.map (some m)) (.agg #[.string nk, .string EUR]) true).run Try.prog w' = .ok (.tuple #[.agg #[.int .i64 fl, .int .i64 bal, .int .i64 0], .bool true]) w') (ds := []) #[false, false, false, false, false, false, false, false, false, false, false, false, false, false, false, false] (by kernel_rfl) rfl rfl ⟨C0, C1, C2, R0⟩ (fun hHeld => ?_)
      refine with_tabW ledWrong.tab8 ledWrong.bits8 (fun HT_ HW_ => ?_)
      generalize World.drew _ = w2 at HL1 HD1 HK1 hHeld ⊢
      refine pure_ (i := 0) (N := some 42) (v := ?_) (a' := ?_) #[true, false, false, false, false, false, false, false, false, false, false, false, false, false, false, false] rfl rfl (any_of HT_.out (by kernel_rfl)) (fun _ _ _ h => h) (Or.inl ⟨by rfl, ?_⟩) ?_ ?_
      rotate_left
      · intro w'
        go_simp
        with_reducible rfl
      rotate_left
      · simp only [Act.put, List.setIfInBounds_toArray, List.set_cons_zero, List.set_cons_succ, i64_w, i32_w]
        rfl
      refine pure_ (i := 1) (N := some 43) (v := ?_) (a' := ?_) #[true, true, false, false, false, false, false, false, false, false, false, false, false, false, false, false] rfl rfl (any_of HT_.out (by kernel_rfl)) (fun _ _ _ h => h) (Or.inl ⟨by rfl, ?_⟩) ?_ ?_
      rotate_left
      · intro w'
        go_simp
        with_reducible rfl
      rotate_left
      · simp only [Act.put, List.setIfInBounds_toArray, List.set_cons_zero, List.set_cons_succ, i64_w, i32_w]
        rfl
      refine pure_ (i := 2) (N := some 44) (v := ?_) (a' := ?_) #[true, true, true, false, false, false, false, false, false, false, false, false, false, false, false, false] rfl rfl (any_of HT_.out (by kernel_rfl)) (fun _ _ _ h => h) (Or.inl ⟨by rfl, ?_⟩) ?_ ?_
      rotate_left
      · intro w'
        go_simp
        with_reducible rfl
      rotate_left
      · simp only [Act.put, List.setIfInBounds_toArray, List.set_cons_zero, List.set_cons_succ, i64_w, i32_w]
        rfl
      refine take_ (i := 3) (N := some 45) (v := ?_) (a' := ?_) #[true, true, true, true, false, false, false, false, false, false, false, false, false, false, false, false] rfl rfl (take_ofW HT_.out HW_.out (by kernel_rfl)) (fun _ _ _ h => h) (Or.inl ⟨by rfl, ?_⟩) hHeld ?_ ?_
      rotate_left
      · rintro w' ⟨s0, s1, s2, s3⟩
        go_simp
        with_reducible rfl
      rotate_left
      · simp only [Act.put, List.setIfInBounds_toArray, List.set_cons_zero, List.set_cons_succ, i64_w, i32_w]
        rfl
      refine pure_ (i := 4) (N := some 46) (v := ?_) (a' := ?_) #[true, true, true, true, true, false, false, false, false, false, false, false, false, false, false, false] rfl rfl (any_of HT_.out (by kernel_rfl)) (fun _ _ _ h => h) (Or.inl ⟨by rfl, ?_⟩) ?_ ?_
      rotate_left
      · intro w'
        go_simp
        with_reducible rfl
      rotate_left
      · simp only [Act.put, List.setIfInBounds_toArray, List.set_cons_zero, List.set_cons_succ, i64_w, i32_w]
        rfl
      refine take_ (i := 5) (N := some 47) (v := ?_) (a' := ?_) #[true, true, true, true, true, true, false, false, false, false, false, false, false, false, false, false] rfl rfl (take_ofW HT_.out HW_.out (by kernel_rfl)) (fun _ _ _ h => h) (Or.inl ⟨by rfl, ?_⟩) hHeld ?_ ?_
      rotate_left
      · rintro w' ⟨s0, s1, s2, s3⟩
        go_simp
        with_reducible rfl
      rotate_left
      · simp only [Act.put, List.setIfInBounds_toArray, List.set_cons_zero, List.set_cons_succ, i64_w, i32_w]
        rfl
      refine pure_ (i := 6) (N := some 48) (v := ?_) (a' := ?_) #[true, true, true, true, true, true, true, false, false, false, false, false, false, false, false, false] rfl rfl (any_of HT_.out (by kernel_rfl)) (fun _ _ _ h => h) (Or.inl ⟨by rfl, ?_⟩) ?_ ?_
      rotate_left
      · intro w'
        go_simp
        with_reducible rfl
      rotate_left
      · simp only [Act.put, List.setIfInBounds_toArray, List.set_cons_zero, List.set_cons_succ, i64_w, i32_w]
        rfl
      refine take_ (i := 7) (N := some 49) (v := ?_) (a' := ?_) #[true, true, true, true, true, true, true, true, false, false, false, false, false, false, false, false] rfl rfl (take_ofW HT_.out HW_.out (by kernel_rfl)) (fun _ _ _ h => h) (Or.inl ⟨by rfl, ?_⟩) hHeld ?_ ?_
      rotate_left
      · rintro w' ⟨s0, s1, s2, s3⟩
        go_simp
        with_reducible rfl
      rotate_left
      · simp only [Act.put, List.setIfInBounds_toArray, List.set_cons_zero, List.set_cons_succ, i64_w, i32_w]
        rfl
      refine pure_ (i := 8) (N := some 50) (v := ?_) (a' := ?_) #[true, true, true, true, true, true, true, true, true, false, false, false, false, false, false, false] rfl rfl (any_of HT_.out (by kernel_rfl)) (fun _ _ _ h => h) (Or.inl ⟨by rfl, ?_⟩) ?_ ?_
      rotate_left
      · intro w'
        go_simp
        with_reducible rfl
      rotate_left
      · simp only [Act.put, List.setIfInBounds_toArray, List.set_cons_zero, List.set_cons_succ, i64_w, i32_w]
        rfl
      refine take_ (i := 9) (N := some 51) (v := ?_) (a' := ?_) #[true, true, true, true, true, true, true, true, true, true, false, false, false, false, false, false] rfl rfl (take_ofW HT_.out HW_.out (by kernel_rfl)) (fun _ _ _ h => h) (Or.inl ⟨by rfl, ?_⟩) hHeld ?_ ?_
      rotate_left
      · rintro w' ⟨s0, s1, s2, s3⟩
        go_simp
        with_reducible rfl
      rotate_left
      · simp only [Act.put, List.setIfInBounds_toArray, List.set_cons_zero, List.set_cons_succ, i64_w, i32_w]
        rfl
      refine pure_ (i := 10) (N := some 41) (v := ?_) (a' := ?_) #[true, true, true, true, true, true, true, true, true, true, true, false, false, false, false, false] rfl rfl (any_of HT_.out (by kernel_rfl)) (fun _ _ _ h => h) (Or.inl ⟨by rfl, ?_⟩) ?_ ?_
      rotate_left
      · intro w'
        go_simp
        with_reducible rfl
      rotate_left
      · simp only [Act.put, List.setIfInBounds_toArray, List.set_cons_zero, List.set_cons_succ, i64_w, i32_w]
        rfl
      refine pure_ (i := 11) (N := some 52) (v := ?_) (a' := ?_) #[true, true, true, true, true, true, true, true, true, true, true, true, false, false, false, false] rfl rfl (any_of HT_.out (by kernel_rfl)) (fun _ _ _ h => h) (Or.inl ⟨by rfl, ?_⟩) ?_ ?_
      rotate_left
      · intro w'
        go_simp
        with_reducible rfl
      rotate_left
      · simp only [Act.put, List.setIfInBounds_toArray, List.set_cons_zero, List.set_cons_succ, i64_w, i32_w]
        rfl
      refine pure_ (i := 12) (N := some 53) (v := ?_) (a' := ?_) #[true, true, true, true, true, true, true, true, true, true, true, true, true, false, false, false] rfl rfl (any_of HT_.out (by kernel_rfl)) (fun _ _ _ h => h) (Or.inl ⟨by rfl, ?_⟩) ?_ ?_
      rotate_left
      · intro w'
        go_simp
        with_reducible rfl
      rotate_left
      · simp only [Act.put, List.setIfInBounds_toArray, List.set_cons_zero, List.set_cons_succ, i64_w, i32_w]
        rfl
      refine one_ (i := 13) (N := some 9) #[true, true, true, true, true, true, true, true, true, true, true, true, true, true, false, false] rfl rfl (one_of HT_.out (by kernel_rfl)) (by decide) (fun K hK => ?_)
      have R2 := run_lookup_ok law75 Try.underlying70 zero77 (HL1.out.below (below_alloc (Below.refl _ _) (.cells #[.int .i64 0, .int .i64 0, .int .i64 0] 77))).acc hkk.out (v := .agg #[.int .i64 fl, .int .i64 bal, .int .i64 0]) (by rw [hfk.out]; rfl)
      rw [hfk.out] at R2
      simp only [Option.isSome_some] at R2
      refine event_step (v := .pointer (some ⟨w2.heap.size, 0, none⟩)) (w1 := w2.alloc (.cells #[.int .i64 0, .int .i64 0, .int .i64 0] 77)) (by rfl) (by first | (go_simp; done) | (go_simp; rfl)) ?_
      refine hK.out _ _ ⟨(HL1.out.below (below_alloc (Below.refl _ _) _)).cells.1, (box3 (blk_alloc HK1.out _)).1, (box3 (blk_alloc HK1.out _)).2.1, R2⟩ (fun hHeld => ?_)
      clear hK K
      refine norm_ (a' := ?_) ?_ ?_
      rotate_left
      · show Act.put _ (some 9) _ = _
        simp only [Act.put, List.setIfInBounds_toArray, List.set_cons_zero, List.set_cons_succ, i64_w, i32_w]
        rfl
      refine one_ (i := 14) (N := none) #[true, true, true, true, true, true, true, true, true, true, true, true, true, true, true, false] rfl rfl (one_of HT_.out (by kernel_rfl)) (by decide) (fun K hK => ?_)
      have H3 : Aside0 (Led (w2.alloc (.cells #[.int .i64 fl, .int .i64 bal, .int .i64 0] 77)) B p m N v n f) := ⟨HL1.out.below (below_alloc (Below.refl _ _) _)⟩
      have R3 := run_lookup_ok law75 Try.underlying70 zero77 H3.out.acc hkk.out (v := .agg #[.int .i64 fl, .int .i64 bal, .int .i64 0]) (by rw [hfk.out]; rfl)
      rw [hfk.out] at R3
      simp only [Option.isSome_some] at R3
      rw [if_pos (by rfl)]
      unfold Oper.wp
      go_simp
      refine hK.out _ _ ⟨H3.out.cells.1, (box3 (blk_alloc HK1.out _)).1, (box3 (blk_alloc HK1.out _)).2.1, R3⟩ (fun hHeld => ?_)
      clear hK K
      refine pure_ (i := 15) (N := some 10) (v := ?_) (a' := ?_) #[true, true, true, true, true, true, true, true, true, true, true, true, true, true, true, true] rfl rfl (any_of HT_.out (by kernel_rfl)) (fun _ _ _ h => h) (Or.inl ⟨by rfl, ?_⟩) ?_ ?_
      rotate_left
      · intro w'
        go_simp
        with_reducible rfl
      rotate_left
      · simp only [Act.put, List.setIfInBounds_toArray, List.set_cons_zero, List.set_cons_succ, i64_w, i32_w]
        rfl
      refine done_ (done_of HT_.out (by kernel_rfl)) ?_
      have D3 : Aside0 (Below w.heap.size w (w2.alloc (.cells #[.int .i64 fl, .int .i64 bal, .int .i64 0] 77))) := ⟨below_alloc HD1.out _⟩
      go_wp2_with fail
      go_roundw
      case rel => exact ⟨k + 1, by omega, by go_num, D3⟩
      case measure => simp [intOf]; omega
    · obtain rfl : k = 2 := by omega
      go_wp2_with fail
      have HM0 : Aside0 (MapIs (wr.alloc (.map #[] 0)) Try.prog 9 wr.heap.size 0 (sumF x 0)) := ⟨MapIs.made wr Try.prog 9⟩
      have HB0 : Aside0 (Below w.heap.size w (wr.alloc (.map #[] 0))) := ⟨below_alloc HB.out _⟩
      have hbs : Aside0 (w.heap.size ≤ wr.heap.size) := ⟨HB.out.size⟩
      obtain ⟨b, hb⟩ : ∃ b, b = wr.heap.size := ⟨_, rfl⟩
      rw [← hb] at HM0 hbs ⊢
      clear hb HB
      go_loopw [60] (fun i wr => ∃ k : Nat, k ≤ 2 ∧ i = .int .i64 k ∧ Aside0 (MapIs wr Try.prog 9 b k (sumF x k)) ∧ Aside0 (Below w.heap.size w wr))
        (fun i _ => 2 - (intOf i).toNat)
      case atStart => exact ⟨0, by omega, rfl, HM0, HB0⟩
      case round =>
        obtain ⟨k, hk, rfl, HM, HB⟩ := hrel
        by_cases hlt : k < 2
        · obtain ⟨ad, e, hx0, hx1, hx2⟩ := at_T54 HX.out (k : Int) (by omega) (by omega)
          cases e
          rw [ents_at n1 n2 x k hlt] at hx0 hx1 hx2
          simp only [Int.toNat_natCast] at hx0 hx1 hx2
          replace hx0 := cellB HB.out hx0
          replace hx1 := cellB HB.out hx1
          replace hx2 := cellB HB.out hx2
          have HS := sumF_old x k hlt
          have HS2 := Aside0.mk (sumF_new x k hlt)
          obtain ⟨nk, hnk⟩ : ∃ nk, nk = (if k = 0 then n1 else n2) := ⟨_, rfl⟩
          obtain ⟨xk, hxk⟩ : ∃ xk, xk = (if k = 0 then -x else x) := ⟨_, rfl⟩
          obtain ⟨sk, hsk⟩ : ∃ sk, sk = (if k = 0 then 0 else -x) := ⟨_, rfl⟩
          rw [← hnk] at hx0
          rw [← hxk] at hx2 HS2
          rw [← hsk] at HS HS2
          have b1 : -1099511627776 ≤ xk := by rw [hxk]; split <;> omega
          have b2 : xk ≤ 1099511627776 := by rw [hxk]; split <;> omega
          have b3 : -1099511627776 ≤ sk := by rw [hsk]; split <;> omega
          have b4 : sk ≤ 0 := by rw [hsk]; split <;> omega
          have b5 : decide (xk < -1099511627776) = false := by rw [decide_eq_false_iff_not]; omega
          have b6 : decide (1099511627776 < xk) = false := by rw [decide_eq_false_iff_not]; omega
          clear hnk hxk hsk
          replace HS := Aside0.mk HS
          have hk2 : (k : Int) < 2 := by omega
          have hkl : k < 1000 := by omega
          go_wp2_with (first
            | (at_lookup; refine wp_lookup_some _ (wanted_of_none rfl) _ _ 96 rfl 9 2 law9 Try.underlying96 zero2 b k (sumF x k) rfl (HM.out.alloc _) _ _ rfl keyE _ HS.out ?_)
            | (at_mapUpdate; refine wp_update _ rfl _ _ _ 96 rfl 9 2 law9 Try.underlying96 b k (sumF x k) rfl (HM.out.alloc _) (by unfold maxLen; omega) _ _ _ rfl rfl keyE ?_)
            | fail)
          intro w4 hM4 hg4
          rw [HS2.out] at hM4
          have HM4 := Aside0.mk hM4
          have HB4 : Aside0 (Below w.heap.size w w4) := ⟨(below_alloc HB.out _).grown hg4 (by simp; have := HB.out.size; omega) (fun j hj => by injection hj with hj; rw [← hj]; exact hbs.out)⟩
          clear hM4 hg4
          go_wp2_with fail
          go_roundw
          case rel => exact ⟨_, _, _, _, _, _, _, _, _, _, _, _, _, _, _, _, _, _, _, _, _, _, ⟨k + 1, by omega, by go_num, HM4, HB4⟩, rfl⟩
          case measure => simp [intOf]; omega
        · obtain rfl : k = 2 := by omega
          go_wp2_with (first
            | (at_range; refine wp_range _ rfl _ 96 rfl 9 2 law9 Try.underlying96 b 2 (sumF x 2) rfl HM.out ?_)
            | fail)
          intro w1 cnt hR hcnt hg1 hs1
          have HR := Aside0.mk hR
          have HB1 : Aside0 (Below w.heap.size w w1) := ⟨HB.out.grown hg1 HB.out.size (fun _ h => by cases h)⟩
          have hrl : Aside0 (w.heap.size ≤ wr.heap.size) := ⟨HB.out.size⟩
          obtain ⟨r, hr⟩ : ∃ r, r = wr.heap.size := ⟨_, rfl⟩
          rw [← hr] at HR hrl ⊢
          clear hR hg1 hs1 hr HB HM
          go_wp2_with fail
          go_loopw [15] (fun _ wr => ∃ left cnt, Aside0 (RangeIs wr Try.prog 9 b r 2 (sumF x 2) left cnt) ∧ Aside0 (Below w.heap.size w wr))
            (fun _ wr => wr.rangeLeft b r)
          case atStart => exact ⟨_, cnt, HR, HB1⟩
          case round =>
            obtain ⟨left, cnt, HR, HB⟩ := hrel
            have hm0 := Aside0.mk HR.out.left_eq
            go_wp2_with (first
              | (at_next; refine wp_next _ rfl _ rfl 9 law9 b r 2 (sumF x 2) left cnt rfl HR.out ?_ ?_)
              | fail)
            · intro hc hl
              go_wp2_with fail
              go_ret
              exact ⟨rfl, HB.out⟩
            · intro key v kl w4 cnt4 hkey hlk hfv hR4 hlt hg4 hs4 hen
              obtain rfl := sumF_all x kl v hfv
              have HR4 := Aside0.mk hR4
              have HB4 : Aside0 (Below w.heap.size w w4) := ⟨HB.out.grown hg4 HB.out.size (fun j hj => by injection hj with hj; rw [← hj]; exact hrl.out)⟩
              replace hlt := Aside0.mk hlt
              replace hkey := Aside0.mk hkey
              clear hR4 hfv hlk hg4 hs4 HR HB
              go_wp2_with fail
              go_roundw
              case rel => exact ⟨_, cnt4, HR4, HB4⟩
              case measure => rw [HR4.out.left_eq, hm0.out]; exact hlt.out
end Go.Proofs.Ytaogmbiepbhmoaa.A

/- Ledger's functions walked. -/
import Derived.Test.YtaogmbiepbhmoaaEntry
namespace Go.Proofs.Ytaogmbiepbhmoaa.A
open Go.RowKit Go.Lib Go.Maps ScKit Go.Proofs.YtaogmbiepbhmoaaW.PrintWords Go.Proofs.YtaogmbiepbhmoaaW.PrintLast Go.Proofs.YtaogmbiepbhmoaaW.PrintMore
set_option linter.unusedVariables false
set_option linter.unusedSimpArgs false

def ledPut.T1 : Bool × List (List Nat × List Nat) := (true, [([], []), ([0], [0]), ([1], [1]), ([2], [2]), ([], []), ([], []), ([5], [5]), ([3, 4, 6, 0, 1, 2, 3, 4, 5, 6], [3, 4, 6])])
def ledPut.B1 : List Nat := [0, 1, 3, 7, 0, 0, 32, 127]
theorem ledPut.tab1 : rtab .any (opsOf Try.f33 1) = ledPut.T1 := by kernel_rfl
theorem ledPut.bits1 : waitsOk ledPut.T1.2 ledPut.B1 = true := by kernel_rfl
def ledOpen.T2 : Bool × List (List Nat × List Nat) := (true, [([], []), ([0], [0]), ([1], [1]), ([2], [2]), ([], []), ([3, 4], [3, 4]), ([5], [5]), ([6], [6]), ([6], [6]), ([], []), ([9, 7, 0, 1, 2, 3, 4, 5, 6, 7, 9], [7, 9]), ([8, 10, 0, 1, 2, 3, 4, 5, 6, 7, 8, 9, 10], [8])])
def ledOpen.B2 : List Nat := [0, 1, 3, 7, 0, 31, 63, 127, 127, 0, 767, 2047]
theorem ledOpen.tab2 : rtab .any (opsOf Try.f17 2) = ledOpen.T2 := by kernel_rfl
theorem ledOpen.bits2 : waitsOk ledOpen.T2.2 ledOpen.B2 = true := by kernel_rfl
set_option maxHeartbeats 8000000 in
set_option maxRecDepth 100000 in
theorem put_calls {w : World} {B p m N n : Nat} {v : Value} {f : Lit → Option Value} (hL : Led w B p m N v n f) (hN : N < 1000) (a c : ByteArray) (kl : Lit) (hk : keyOf Try.prog 75 (kv a c) = some kl) (fl : Int) :
    Calls Try.prog 33 #[.pointer (some ⟨p, 0, none⟩), kv a c, .int .i64 fl] w fun e w' => e = .returned (.tuple #[]) ∧ Led w' B p m (N + 1) v n (upd f kl (acct fl 0)) ∧ Mod w w' (fun k => k = m) := by
  have HL := Aside0.mk hL
  replace hk := Aside0.mk hk
  unfold kv at hk ⊢
  clear hL
  go_enter Try.func33, Try.ntmps33
  go_wp2_with fail
  have HL1 : Aside0 (Led (w.alloc (.cells #[.string a, .string c] 75)).drew B p m N v n f) := ⟨HL.out.below (((Below.refl _ _).alloc (Nat.le_refl _) _).drew)⟩
  have HD1 : Aside0 (Mod w (w.alloc (.cells #[.string a, .string c] 75)).drew (fun k => k = m)) := ⟨((Mod.refl _ _).alloc _).drew⟩
  obtain ⟨C1, C2⟩ := box2 (blk_drew (blk_new w (.cells #[.string a, .string c] 75)))
  have C0 := HL1.out.cells.1
  refine start_ (n := 8) (S := fun w' => w'.cell? ⟨p, 1, none⟩ = some (.map (some m)) ∧ w'.cell? ⟨w.heap.size, 0, none⟩ = some (.string a) ∧ w'.cell? ⟨w.heap.size, 1, none⟩ = some (.string c)) (ds := []) #[false, false, false, false, false, false, false, false] (by kernel_rfl) rfl rfl ⟨C0, C1, C2⟩ (fun hHeld => ?_)
  refine with_tabW ledPut.tab1 ledPut.bits1 (fun HT_ HW_ => ?_)
  refine pure_ (i := 0) (N := some 6) (v := ?_) (a' := ?_) #[true, false, false, false, false, false, false, false] rfl rfl (any_of HT_.out (by kernel_rfl)) (fun _ _ _ h => h) (Or.inl ⟨by rfl, ?_⟩) ?_ ?_
  rotate_left
  · intro w'
    go_simp
    with_reducible rfl
  rotate_left
  · simp only [Act.put, List.setIfInBounds_toArray, List.set_cons_zero, List.set_cons_succ, i64_w, i32_w]
    rfl
  refine pure_ (i := 1) (N := some 7) (v := ?_) (a' := ?_) #[true, true, false, false, false, false, false, false] rfl rfl (any_of HT_.out (by kernel_rfl)) (fun _ _ _ h => h) (Or.inl ⟨by rfl, ?_⟩) ?_ ?_
  rotate_left
  · intro w'
    go_simp
    with_reducible rfl
  rotate_left
  · simp only [Act.put, List.setIfInBounds_toArray, List.set_cons_zero, List.set_cons_succ, i64_w, i32_w]
    rfl
  refine pure_ (i := 2) (N := some 8) (v := ?_) (a' := ?_) #[true, true, true, false, false, false, false, false] rfl rfl (any_of HT_.out (by kernel_rfl)) (fun _ _ _ h => h) (Or.inl ⟨by rfl, ?_⟩) ?_ ?_
  rotate_left
  · intro w'
    go_simp
    with_reducible rfl
  rotate_left
  · simp only [Act.put, List.setIfInBounds_toArray, List.set_cons_zero, List.set_cons_succ, i64_w, i32_w]
    rfl
  refine pure_ (i := 5) (N := some 11) (v := ?_) (a' := ?_) #[true, true, true, false, false, true, false, false] rfl rfl (any_of HT_.out (by kernel_rfl)) (fun _ _ _ h => h) (Or.inl ⟨by rfl, ?_⟩) ?_ ?_
  rotate_left
  · intro w'
    go_simp
    with_reducible rfl
  rotate_left
  · simp only [Act.put, List.setIfInBounds_toArray, List.set_cons_zero, List.set_cons_succ, i64_w, i32_w]
    rfl
  refine pure_ (i := 6) (N := some 12) (v := ?_) (a' := ?_) #[true, true, true, false, false, true, true, false] rfl rfl (any_of HT_.out (by kernel_rfl)) (fun _ _ _ h => h) (Or.inl ⟨by rfl, ?_⟩) ?_ ?_
  rotate_left
  · intro w'
    go_simp
    with_reducible rfl
  rotate_left
  · simp only [Act.put, List.setIfInBounds_toArray, List.set_cons_zero, List.set_cons_succ, i64_w, i32_w]
    rfl
  refine take_ (i := 3) (N := some 9) (v := ?_) (a' := ?_) #[true, true, true, true, false, true, true, false] rfl rfl (take_ofW HT_.out HW_.out (by kernel_rfl)) (fun _ _ _ h => h) (Or.inl ⟨by rfl, ?_⟩) hHeld ?_ ?_
  rotate_left
  · rintro w' ⟨s0, s1, s2⟩
    go_simp
    with_reducible rfl
  rotate_left
  · simp only [Act.put, List.setIfInBounds_toArray, List.set_cons_zero, List.set_cons_succ, i64_w, i32_w]
    rfl
  refine take_ (i := 4) (N := some 10) (v := ?_) (a' := ?_) #[true, true, true, true, true, true, true, false] rfl rfl (take_ofW HT_.out HW_.out (by kernel_rfl)) (fun _ _ _ h => h) (Or.inl ⟨by rfl, ?_⟩) hHeld ?_ ?_
  rotate_left
  · rintro w' ⟨s0, s1, s2⟩
    go_simp
    with_reducible rfl
  rotate_left
  · simp only [Act.put, List.setIfInBounds_toArray, List.set_cons_zero, List.set_cons_succ, i64_w, i32_w]
    rfl
  refine one_ (i := 7) (N := none) #[true, true, true, true, true, true, true, true] rfl rfl (one_of HT_.out (by kernel_rfl)) (by decide) (fun K hK => ?_)

  refine upd_step (by rfl) _ _ _ 70 rfl 75 77 law75 Try.underlying70 m N f rfl HL1.out.acc (by unfold maxLen; omega) _ (acct fl 0) kl rfl rfl hk.out (fun w2 hM hg => ?_)
  have HL2 : Aside0 (Led w2 B p m (N + 1) v n (upd f kl (acct fl 0))) := ⟨HL1.out.turned hM hg⟩
  have HD2 : Aside0 (Mod w w2 (fun k => k = m)) := ⟨HD1.out.grown hg (fun k hk => .inl (by injection hk with hk; exact hk.symm))⟩
  refine hK.out _ _ ⟨HL2.out.cells.1, (box2 (blk_grown (blk_drew (blk_new w _)) hg (fun e => by injection e with e; have := HL.out.acc.lt; omega))).1, (box2 (blk_grown (blk_drew (blk_new w _)) hg (fun e => by injection e with e; have := HL.out.acc.lt; omega))).2⟩ (fun hHeld => ?_)
  clear hK K
  refine done_ (done_of HT_.out (by kernel_rfl)) ?_
  go_wp2_with fail
  go_end0
  exact ⟨rfl, HL2.out, HD2.out⟩
set_option maxHeartbeats 8000000 in
set_option maxRecDepth 100000 in
theorem new_calls (s : ByteArray) (w : World) :
    Calls Try.prog 16 #[.string s] w fun e w' => ∃ p m, e = .returned (.pointer (some ⟨p, 0, none⟩)) ∧ Led w' w.heap.size p m 0 (.slice none 0 0) 0 (fun _ => none) ∧ Below w.heap.size w w' := by
  have hmm := @run_makeMap Try.prog
  go_enter Try.func16, Try.ntmps16
  go_wp2_with fail
  go_ret
  refine ⟨w.heap.size + 1 + 1, w.heap.size, rfl, ⟨⟨s, some (w.heap.size + 1), ?_⟩, ((MapIs.made w Try.prog 75).alloc _).alloc _, ⟨[], rfl, Kd.R_nil _ _ _ _ _⟩, by omega, Nat.le_refl _, by omega⟩, (((Below.refl _ _).alloc (Nat.le_refl _) _).alloc (by simp) _).alloc (by simp; omega) _⟩
  have h := blk_new ((w.alloc (.map #[] 0)).alloc (.map #[] 0)) (.cells #[.string s, .map (some w.heap.size), .slice none 0 0, .map (some (w.heap.size + 1))] 73)
  rw [World.size_alloc, World.size_alloc] at h
  exact h

set_option maxHeartbeats 8000000 in
set_option maxRecDepth 100000 in
theorem open_calls {w : World} {B p m N n : Nat} {v : Value} {f : Lit → Option Value} (hL : Led w B p m N v n f) (hN : N < 1000) (a c : ByteArray) (kl : Lit) (hk : keyOf Try.prog 75 (kv a c) = some kl) (hv : f kl = none) (ha1 : 1 ≤ a.size) (ha2 : a.size ≤ 32) (ha : Lib.idxFunc oddName true a = -1) (hc1 : c.size = 3) (hc : Lib.idxFunc oddUnit true c = -1) (fl : Int) (h0 : -1099511627776 ≤ fl) (h1 : fl ≤ 0) :
    Calls Try.prog 17 #[.pointer (some ⟨p, 0, none⟩), .string a, .string c, .int .i64 fl] w fun e w' => e = .returned (.int .i64 0) ∧ Led w' B p m (N + 1) v n (upd f kl (acct fl 0)) ∧ Mod w w' (fun k => k = m) := by
  have HL := Aside0.mk hL
  have hk0 := Aside0.mk hk
  replace hk := Aside0.mk hk
  replace hv := Aside0.mk hv
  unfold kv at hk
  clear hL
  go_enter Try.func17, Try.ntmps17
  go_wp2_with fail
  have HL1 : Aside0 (Led (w.alloc (.cells #[.string a, .string c] 75)).drew B p m N v n f) := ⟨HL.out.below (((Below.refl _ _).alloc (Nat.le_refl _) _).drew)⟩
  have HD1 : Aside0 (Mod w (w.alloc (.cells #[.string a, .string c] 75)).drew (fun k => k = m)) := ⟨((Mod.refl _ _).alloc _).drew⟩
  have HK1 := Aside0.mk (blk_drew (blk_new w (.cells #[.string a, .string c] 75)))
  obtain ⟨C1, C2⟩ := box2 HK1.out
  have C0 := HL1.out.cells.1
  have R0 := run_lookup_ok law75 Try.underlying70 zero77 HL1.out.acc hk.out (v := .agg #[.int .i64 0, .int .i64 0, .int .i64 0]) (by rw [hv.out]; rfl)
  rw [hv.out] at R0
  simp only [Option.isSome_none] at R0
  refine start_ (n := 12) (S := fun w' => w'.cell? ⟨p, 1, none⟩ = some (.map (some m)) ∧ w'.cell? ⟨w.heap.size, 0, none⟩ = some (.string a) ∧ w'.cell? ⟨w.heap.size, 1, none⟩ = some (.string c) ∧ (Instr.lookup 70 (.map (some m)) (.agg #[.string a, .string c]) true).run Try.prog w' = .ok (.tuple #[.agg #[.int .i64 0, .int .i64 0, .int .i64 0], .bool false]) w') (ds := []) #[false, false, false, false, false, false, false, false, false, false, false, false] (by kernel_rfl) rfl rfl ⟨C0, C1, C2, R0⟩ (fun hHeld => ?_)
  refine with_tabW ledOpen.tab2 ledOpen.bits2 (fun HT_ HW_ => ?_)
  generalize World.drew _ = w2 at HL1 HD1 HK1 hHeld ⊢
  refine pure_ (i := 0) (N := some 16) (v := ?_) (a' := ?_) #[true, false, false, false, false, false, false, false, false, false, false, false] rfl rfl (any_of HT_.out (by kernel_rfl)) (fun _ _ _ h => h) (Or.inl ⟨by rfl, ?_⟩) ?_ ?_
  rotate_left
  · intro w'
    go_simp
    with_reducible rfl
  rotate_left
  · simp only [Act.put, List.setIfInBounds_toArray, List.set_cons_zero, List.set_cons_succ, i64_w, i32_w]
    rfl
  refine pure_ (i := 1) (N := some 17) (v := ?_) (a' := ?_) #[true, true, false, false, false, false, false, false, false, false, false, false] rfl rfl (any_of HT_.out (by kernel_rfl)) (fun _ _ _ h => h) (Or.inl ⟨by rfl, ?_⟩) ?_ ?_
  rotate_left
  · intro w'
    go_simp
    with_reducible rfl
  rotate_left
  · simp only [Act.put, List.setIfInBounds_toArray, List.set_cons_zero, List.set_cons_succ, i64_w, i32_w]
    rfl
  refine pure_ (i := 2) (N := some 18) (v := ?_) (a' := ?_) #[true, true, true, false, false, false, false, false, false, false, false, false] rfl rfl (any_of HT_.out (by kernel_rfl)) (fun _ _ _ h => h) (Or.inl ⟨by rfl, ?_⟩) ?_ ?_
  rotate_left
  · intro w'
    go_simp
    with_reducible rfl
  rotate_left
  · simp only [Act.put, List.setIfInBounds_toArray, List.set_cons_zero, List.set_cons_succ, i64_w, i32_w]
    rfl
  refine take_ (i := 3) (N := some 19) (v := ?_) (a' := ?_) #[true, true, true, true, false, false, false, false, false, false, false, false] rfl rfl (take_ofW HT_.out HW_.out (by kernel_rfl)) (fun _ _ _ h => h) (Or.inl ⟨by rfl, ?_⟩) hHeld ?_ ?_
  rotate_left
  · rintro w' ⟨s0, s1, s2, s3⟩
    go_simp
    with_reducible rfl
  rotate_left
  · simp only [Act.put, List.setIfInBounds_toArray, List.set_cons_zero, List.set_cons_succ, i64_w, i32_w]
    rfl
  refine take_ (i := 4) (N := some 20) (v := ?_) (a' := ?_) #[true, true, true, true, true, false, false, false, false, false, false, false] rfl rfl (take_ofW HT_.out HW_.out (by kernel_rfl)) (fun _ _ _ h => h) (Or.inl ⟨by rfl, ?_⟩) hHeld ?_ ?_
  rotate_left
  · rintro w' ⟨s0, s1, s2, s3⟩
    go_simp
    with_reducible rfl
  rotate_left
  · simp only [Act.put, List.setIfInBounds_toArray, List.set_cons_zero, List.set_cons_succ, i64_w, i32_w]
    rfl
  refine take_ (i := 5) (N := some 21) (v := ?_) (a' := ?_) #[true, true, true, true, true, true, false, false, false, false, false, false] rfl rfl (take_ofW HT_.out HW_.out (by kernel_rfl)) (fun _ _ _ h => h) (Or.inl ⟨by rfl, ?_⟩) hHeld ?_ ?_
  rotate_left
  · rintro w' ⟨s0, s1, s2, s3⟩
    go_simp
    with_reducible rfl
  rotate_left
  · simp only [Act.put, List.setIfInBounds_toArray, List.set_cons_zero, List.set_cons_succ, i64_w, i32_w]
    rfl
  refine pure_ (i := 6) (N := some 15) (v := ?_) (a' := ?_) #[true, true, true, true, true, true, true, false, false, false, false, false] rfl rfl (any_of HT_.out (by kernel_rfl)) (fun _ _ _ h => h) (Or.inl ⟨by rfl, ?_⟩) ?_ ?_
  rotate_left
  · intro w'
    go_simp
    with_reducible rfl
  rotate_left
  · simp only [Act.put, List.setIfInBounds_toArray, List.set_cons_zero, List.set_cons_succ, i64_w, i32_w]
    rfl
  refine pure_ (i := 7) (N := some 22) (v := ?_) (a' := ?_) #[true, true, true, true, true, true, true, true, false, false, false, false] rfl rfl (any_of HT_.out (by kernel_rfl)) (fun _ _ _ h => h) (Or.inl ⟨by rfl, ?_⟩) ?_ ?_
  rotate_left
  · intro w'
    go_simp
    with_reducible rfl
  rotate_left
  · simp only [Act.put, List.setIfInBounds_toArray, List.set_cons_zero, List.set_cons_succ, i64_w, i32_w]
    rfl
  refine pure_ (i := 8) (N := some 23) (v := ?_) (a' := ?_) #[true, true, true, true, true, true, true, true, true, false, false, false] rfl rfl (any_of HT_.out (by kernel_rfl)) (fun _ _ _ h => h) (Or.inl ⟨by rfl, ?_⟩) ?_ ?_
  rotate_left
  · intro w'
    go_simp
    with_reducible rfl
  rotate_left
  · simp only [Act.put, List.setIfInBounds_toArray, List.set_cons_zero, List.set_cons_succ, i64_w, i32_w]
    rfl
  refine one_ (i := 9) (N := some 10) #[true, true, true, true, true, true, true, true, true, true, false, false] rfl rfl (one_of HT_.out (by kernel_rfl)) (by decide) (fun K hK => ?_)
  have H2 : Aside0 (Led (w2.alloc (.cells #[.int .i64 0, .int .i64 0, .int .i64 0] 77)) B p m N v n f) := ⟨HL1.out.below ((Below.refl _ _).alloc (Nat.le_refl _) _)⟩
  have R2 := run_lookup_ok law75 Try.underlying70 zero77 H2.out.acc hk.out (v := .agg #[.int .i64 0, .int .i64 0, .int .i64 0]) (by rw [hv.out]; rfl)
  rw [hv.out] at R2
  simp only [Option.isSome_none] at R2
  refine event_step (v := .pointer (some ⟨w2.heap.size, 0, none⟩)) (w1 := w2.alloc (.cells #[.int .i64 0, .int .i64 0, .int .i64 0] 77)) (by rfl) (by first | (go_simp; done) | (go_simp; rfl)) ?_
  refine hK.out _ _ ⟨H2.out.cells.1, (box2 (blk_alloc HK1.out _)).1, (box2 (blk_alloc HK1.out _)).2, R2⟩ (fun hHeld => ?_)
  clear hK K
  refine norm_ (a' := ?_) ?_ ?_
  rotate_left
  · show Act.put _ (some 10) _ = _
    simp only [Act.put, List.setIfInBounds_toArray, List.set_cons_zero, List.set_cons_succ, i64_w, i32_w]
    rfl
  refine one_ (i := 10) (N := none) #[true, true, true, true, true, true, true, true, true, true, true, false] rfl rfl (one_of HT_.out (by kernel_rfl)) (by decide) (fun K hK => ?_)
  rw [if_pos (by rfl)]
  unfold Oper.wp
  go_simp
  refine hK.out _ _ ⟨H2.out.cells.1, (box2 (blk_alloc HK1.out _)).1, (box2 (blk_alloc HK1.out _)).2, R2⟩ (fun hHeld => ?_)
  clear hK K
  refine pure_ (i := 11) (N := some 11) (v := ?_) (a' := ?_) #[true, true, true, true, true, true, true, true, true, true, true, true] rfl rfl (any_of HT_.out (by kernel_rfl)) (fun _ _ _ h => h) (Or.inl ⟨by rfl, ?_⟩) ?_ ?_
  rotate_left
  · intro w'
    go_simp
    with_reducible rfl
  rotate_left
  · simp only [Act.put, List.setIfInBounds_toArray, List.set_cons_zero, List.set_cons_succ, i64_w, i32_w]
    rfl
  refine done_ (done_of HT_.out (by kernel_rfl)) ?_
  have D2 : Aside0 (Mod w (w2.alloc (.cells #[.int .i64 0, .int .i64 0, .int .i64 0] 77)) (fun k => k = m)) := ⟨HD1.out.alloc _⟩
  have K2 := Aside0.mk (blk_alloc HK1.out (.cells #[.int .i64 0, .int .i64 0, .int .i64 0] 77))
  clear HL1 HD1 HK1 R2 hHeld HT_ HW_
  go_wp2_with fail
  refine (name_calls a ha1 ha2 ha _).mono ?_
  rintro e w4 ⟨rfl, hB4⟩
  have H4 := Aside0.mk (H2.out.below hB4)
  have D4 := Aside0.mk (D2.out.below hB4)
  have K4 := Aside0.mk (blk_below K2.out hB4)
  clear hB4 H2 D2 K2
  go_wp2_with fail
  refine (currency_calls c hc1 hc _).mono ?_
  rintro e w5 ⟨rfl, hB5⟩
  have H5 := Aside0.mk (H4.out.below hB5)
  have D5 := Aside0.mk (D4.out.below hB5)
  have K5 := Aside0.mk (blk_below K4.out hB5)
  clear hB5 H4 D4 K4
  have g0 : decide (fl < -1099511627776) = false := by rw [decide_eq_false_iff_not]; omega
  have g1 : decide (0 < fl) = false := by rw [decide_eq_false_iff_not]; omega
  have c1 := H5.out.cells.1
  obtain ⟨k0, k1⟩ := box2 K5.out
  obtain ⟨sz, hsz, hlen⟩ := map_len H5.out.acc Try.underlying70
  have g2 : decide ((4096 : Int) ≤ (sz : Int)) = false := by rw [decide_eq_false_iff_not]; omega
  go_wp2_with fail
  refine (put_calls H5.out hN a c kl hk0.out fl).mono ?_
  rintro e w6 ⟨rfl, hL6, hD6⟩
  have L6 := Aside0.mk hL6
  have D6 := Aside0.mk (D5.out.trans hD6 (fun k hk => .inl hk))
  clear hL6 hD6
  go_wp2_with fail
  go_ret
  exact ⟨rfl, L6.out, D6.out⟩

end Go.Proofs.Ytaogmbiepbhmoaa.A

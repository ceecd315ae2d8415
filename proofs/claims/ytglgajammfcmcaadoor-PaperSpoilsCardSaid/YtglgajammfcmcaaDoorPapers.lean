/- Papers out of a deal: paper.doc, Invoice, Packing walked. -/
import Derived.Test.YtglgajammfcmcaaDoorPFields
import Derived.Test.YtglgajammfcmcaaDoorLays
import Derived.Lib.AppendIntMem
import Derived.Lib.ItoaNum
import Derived.Lib.ItoaLen
namespace Go.Proofs.YtglgajammfcmcaaDoor.A
open Go.RowKit Go.Shelf Go.Proofs.YtglgajammfcmcaaDoorW.PrintWords Go.Proofs.YtglgajammfcmcaaDoorW.PrintLast Go.Proofs.YtglgajammfcmcaaDoorW.PrintMore
set_option linter.unusedVariables false
set_option linter.unusedSimpArgs false

/-- A deal as it comes by value. -/
structure DealR where
  n0 : ByteArray
  n1 : ByteArray
  n2 : ByteArray
  n3 : ByteArray
  n4 : ByteArray
  n5 : ByteArray
  n6 : ByteArray
  n7 : ByteArray
  n8 : ByteArray
  cur : ByteArray
  amt : Int
  bA : Option Addr
  bn : Nat
  bc : Nat
  t0 : Int
  t1 : Int
  t2 : Int
  t3 : Int
  t4 : Int
def dealC (d : DealR) : Array Value := #[.string d.n0, .string d.n1, .string d.n2, .string d.n3, .string d.n4, .string d.n5, .string d.n6, .string d.n7, .string d.n8, .string d.cur, .int .i64 d.amt, .slice d.bA d.bn d.bc, .int .i64 d.t0, .int .i64 d.t1, .int .i64 d.t2, .int .i64 d.t3, .int .i64 d.t4]
def dealV (d : DealR) : Value := .agg #[.string d.n0, .string d.n1, .string d.n2, .string d.n3, .string d.n4, .string d.n5, .string d.n6, .string d.n7, .string d.n8, .string d.cur, .int .i64 d.amt, .slice d.bA d.bn d.bc, .int .i64 d.t0, .int .i64 d.t1, .int .i64 d.t2, .int .i64 d.t3, .int .i64 d.t4]
theorem R42_le {W : World} {base base' : Nat} {ok : Nat → Prop} {v : Value} {xs : List S42} (h : Kd.R k42 42 W base ok v xs) (hb : base' ≤ base) : Kd.R k42 42 W base' ok v xs := by
  obtain ⟨h0, inner, ho, hr⟩ := h
  exact ⟨h0, inner, ownsRow_base_a ho hb, hr.imp_ (fun p c hp => by rw [k42_openM hp]; exact k42_mkM _ _ _ _)⟩
/-- The table of the powers of ten, as the walks need it. -/
structure Glob (w : World) : Prop where
  pow : Lib.TabIs Tryd.prog w "internal/strconv.uint64pow10" .u64 Lib.pow10Tab
  big : 0 < w.heap.size
theorem Glob.below {w w' : World} (h : Glob w) (hb : Below w.heap.size w w') : Glob w' :=
  ⟨var?_below hb (g := 0) (by kernel_rfl) h.big h.pow, Nat.lt_of_lt_of_le h.big hb.size⟩
theorem units_calls (n : Int) (h : -9223372036854775808 ≤ n ∧ n ≤ 9223372036854775807) (w : World) (hg : Glob w) :
    Calls Tryd.prog 15 #[.int .i64 n] w fun e w' => e = .returned (.string (tx (Lib.itoa n))) ∧ Below w.heap.size w w' := by
  have HF := Aside0.mk ((Any.strconv_FormatInt_10 Tryd.laysM173 n h.1 h.2 w hg.pow).mono (R' := fun e w' => e = .returned (.string (tx (Lib.itoa n))) ∧ Below w.heap.size w w') (by rintro e w' ⟨rfl, k, os, rfl⟩; exact ⟨rfl, Lib.below_grow _ _ (Nat.le_refl _) k os⟩))
  clear hg h
  go_enter Tryd.func15, Tryd.ntmps15
  go_wp2_with fail
  refine HF.out.mono ?_
  rintro e w' ⟨rfl, hB⟩
  replace hB := Aside0.mk hB
  clear HF
  go_wp2_with fail
  go_ret
  exact ⟨rfl, hB.out⟩
theorem itoa_calls (n : Int) (h : -9223372036854775808 ≤ n ∧ n ≤ 9223372036854775807) (w : World) (hg : Glob w) :
    Calls Tryd.prog 17 #[.int .i64 n] w fun e w' => e = .returned (.string (tx (Lib.itoa n))) ∧ Below w.heap.size w w' :=
  (Any.strconv_Itoa Tryd.laysM171 n h.1 h.2 w hg.pow).mono (by rintro e w' ⟨rfl, k, os, rfl⟩; exact ⟨rfl, Lib.below_grow _ _ (Nat.le_refl _) k os⟩)
theorem many_calls (n : Int) (h : -9223372036854775808 ≤ n ∧ n ≤ 9223372036854775807) (w : World) (hg : Glob w) :
    Calls Tryd.prog 16 #[.int .i64 n] w fun e w' => e = .returned (.string (tx (Lib.itoa n))) ∧ Below w.heap.size w w' := by
  have HF := Aside0.mk (itoa_calls n h w hg)
  clear hg h
  go_enter Tryd.func16, Tryd.ntmps16
  go_wp2_with fail
  refine HF.out.mono ?_
  rintro e w' ⟨rfl, hB⟩
  replace hB := Aside0.mk hB
  clear HF
  go_wp2_with fail
  go_ret
  exact ⟨rfl, hB.out⟩
/-- Names and values, one behind the other. -/
def pairC (ps : List S42) : List Value := ps.flatMap fun x => [.string x.f0, .string x.f1]
theorem pairC_at : ∀ (ps : List S42) (i : Nat) (h : i < ps.length), (pairC ps)[2 * i]? = some (.string (ps[i]'h).f0) ∧ (pairC ps)[2 * i + 1]? = some (.string (ps[i]'h).f1)
  | [], i, h => by simp at h
  | x :: ps, 0, h => ⟨rfl, rfl⟩
  | x :: ps, i + 1, h => by
    have := pairC_at ps i (by simpa using h)
    rw [show 2 * (i + 1) = 2 * i + 1 + 1 by omega]
    simpa [pairC] using this
theorem fields_calls (b : Nat) (ps : List S42) (cap : Nat) (hlen : ps.length ≤ 1000) (hcap : 2 * ps.length ≤ cap) (hcap2 : cap ≤ 9223372036854775807) (w : World) (hb : w.heap[b]? = some (.cells (pairC ps).toArray 9 (0, 0))) :
    Calls Tryd.prog 30 #[.slice (some ⟨b, 0, none⟩) (2 * ps.length) cap] w fun e w' => ∃ v, e = .returned v ∧ Kd.R k42 42 w' w.heap.size (fun _ => True) v ps ∧ Below w.heap.size w w' :=
  (callsIn_wide (n := 6)).1 (fields_in 6 (by omega) b ps cap hlen hcap hcap2 w (blk_lt hb) (fun x => by
    have h := pairC_at ps x.1 x.2
    rw [blk_cell hb, blk_cell hb]
    simpa using h))
theorem box4 {w : World} {g : Nat} {t : TypeId} {a b c d : Value} (h : w.heap[g]? = some (.cells #[a, b, c, d] t (0, 0))) :
    w.cell? ⟨g, 0, none⟩ = some a ∧ w.cell? ⟨g, 1, none⟩ = some b ∧ w.cell? ⟨g, 2, none⟩ = some c ∧ w.cell? ⟨g, 3, none⟩ = some d ∧ w.frozen? ⟨g, 0, none⟩ = false ∧ w.frozen? ⟨g, 1, none⟩ = false ∧ w.frozen? ⟨g, 2, none⟩ = false ∧ w.frozen? ⟨g, 3, none⟩ = false :=
  ⟨(blk_cell h 0).trans rfl, (blk_cell h 1).trans rfl, (blk_cell h 2).trans rfl, (blk_cell h 3).trans rfl, blk_frozen h 0, blk_frozen h 1, blk_frozen h 2, blk_frozen h 3⟩
theorem put4 {w : World} {g : Nat} {t : TypeId} {a b c d : Value} (h : w.heap[g]? = some (.cells #[a, b, c, d] t (0, 0))) (a' b' c' d' : Value) :
    w.grownBy ((((w.setCell ⟨g, 0, none⟩ a').setCell ⟨g, 1, none⟩ b').setCell ⟨g, 2, none⟩ c').setCell ⟨g, 3, none⟩ d') (some g) ∧ ((((w.setCell ⟨g, 0, none⟩ a').setCell ⟨g, 1, none⟩ b').setCell ⟨g, 2, none⟩ c').setCell ⟨g, 3, none⟩ d').heap[g]? = some (.cells #[a', b', c', d'] t (0, 0)) := by
  refine ⟨⟨rfl, rfl, rfl, by simp, fun k _ hk => ?_⟩, ?_⟩
  · have hne : k ≠ g := fun e => hk (by rw [e])
    exact (((Below.heap_setCell _ _ _ k hne).trans (Below.heap_setCell _ _ _ k hne)).trans (Below.heap_setCell _ _ _ k hne)).trans (Below.heap_setCell _ _ _ k hne)
  · exact blk_put (blk_put (blk_put (blk_put h 0 a' rfl) 1 b' rfl) 2 c' rfl) 3 d' rfl
theorem R42_ne4 {W : World} {B base t : Nat} {ok : Nat → Prop} {cs : Array Value} {v : Value} {xs : List S42} (h : W.heap[B]? = some (.cells cs t (0, 0))) (ht : t ≠ 42) (hr : Kd.R k42 42 W base ok v xs) : some B ≠ v.ownBlock := by
  intro e
  obtain ⟨A, c, rfl⟩ := Kd.R_slice hr
  cases A with
  | none => simp [Value.ownBlock] at e
  | some ad =>
    obtain ⟨g, rfl⟩ := Kd.R_head hr
    obtain ⟨cur, hcur⟩ := R_block hr
    obtain rfl : B = g := by simpa [Value.ownBlock] using e
    rw [h] at hcur
    injection hcur with hcur
    injection hcur with _ hcur _
    exact ht hcur
theorem blk_below' {w w' : World} {g : Nat} {o : Obj} (h : w.heap[g]? = some o) (hb : Below w.heap.size w w') : w'.heap[g]? = some o := (hb.block g (Array.getElem?_eq_some_iff.1 h).1).trans h
def docW.T1 : Bool × List (List Nat × List Nat) := (true, [([], []), ([], []), ([], []), ([2], [2]), ([1, 3], [1, 3]), ([], []), ([], []), ([6], [6]), ([0, 4, 5, 7], [0, 4, 5, 7]), ([8, 7, 0, 1, 2, 3, 4, 5, 6, 7, 8], [8])])
def docW.B1 : List Nat := [0, 0, 0, 4, 14, 0, 0, 64, 255, 511]
theorem docW.tab1 : rtab .any (opsOf Tryd.f14 1) = docW.T1 := by kernel_rfl
theorem docW.bits1 : waitsOk docW.T1.2 docW.B1 = true := by kernel_rfl
set_option maxHeartbeats 8000000 in
set_option maxRecDepth 100000 in
theorem doc_calls (k : Int) (head iss : ByteArray) (d : DealR) (b cap : Nat) (ps : List S42) (n2 : Nat) (hn2 : n2 = 2 * ps.length) (hlen : ps.length ≤ 1000) (hcap : 2 * ps.length ≤ cap) (hcap2 : cap ≤ 9223372036854775807) (hsz : head.size + d.n0.size ≤ 1000000) (w : World) (hb : w.heap[b]? = some (.cells (pairC ps).toArray 9 (0, 0))) :
    Calls Tryd.prog 14 #[.int .i64 k, .string head, .agg #[.string d.n0, .string d.n1, .string d.n2, .string d.n3, .string d.n4, .string d.n5, .string d.n6, .string d.n7, .string d.n8, .string d.cur, .int .i64 d.amt, .slice d.bA d.bn d.bc, .int .i64 d.t0, .int .i64 d.t1, .int .i64 d.t2, .int .i64 d.t3, .int .i64 d.t4], .string iss, .slice (some ⟨b, 0, none⟩) n2 cap] w fun e w' => ∃ v, e = .returned (.agg #[.int .i64 k, .string (head ++ d.n0), .string iss, v]) ∧ Kd.R k42 42 w' w.heap.size (fun _ => True) v ps ∧ Below w.heap.size w w' := by
  subst hn2
  have HF := Aside0.mk fun w2 (h : Below w.heap.size w w2) => fields_calls b ps cap hlen hcap hcap2 w2 (blk_below' hb h)
  have B0 : Aside0 (Below w.heap.size w ((w.alloc (.cells #[.string d.n0, .string d.n1, .string d.n2, .string d.n3, .string d.n4, .string d.n5, .string d.n6, .string d.n7, .string d.n8, .string d.cur, .int .i64 d.amt, .slice d.bA d.bn d.bc, .int .i64 d.t0, .int .i64 d.t1, .int .i64 d.t2, .int .i64 d.t3, .int .i64 d.t4] 36)).alloc (.cells #[.int .i64 0, .string ⟨#[]⟩, .string ⟨#[]⟩, .slice none 0 0] 24)).drew) := ⟨(((Below.refl _ w).alloc (Nat.le_refl _) _).alloc (by simp) _).drew⟩
  have K0 : Aside0 (((w.alloc (.cells #[.string d.n0, .string d.n1, .string d.n2, .string d.n3, .string d.n4, .string d.n5, .string d.n6, .string d.n7, .string d.n8, .string d.cur, .int .i64 d.amt, .slice d.bA d.bn d.bc, .int .i64 d.t0, .int .i64 d.t1, .int .i64 d.t2, .int .i64 d.t3, .int .i64 d.t4] 36)).alloc (.cells #[.int .i64 0, .string ⟨#[]⟩, .string ⟨#[]⟩, .slice none 0 0] 24)).drew.heap[w.heap.size]? = some (.cells #[.string d.n0, .string d.n1, .string d.n2, .string d.n3, .string d.n4, .string d.n5, .string d.n6, .string d.n7, .string d.n8, .string d.cur, .int .i64 d.amt, .slice d.bA d.bn d.bc, .int .i64 d.t0, .int .i64 d.t1, .int .i64 d.t2, .int .i64 d.t3, .int .i64 d.t4] 36 (0, 0))) := ⟨(Below.heap_alloc _ _ _ (by simp)).trans (heap_alloc_new w _)⟩
  have K1 : Aside0 (((w.alloc (.cells #[.string d.n0, .string d.n1, .string d.n2, .string d.n3, .string d.n4, .string d.n5, .string d.n6, .string d.n7, .string d.n8, .string d.cur, .int .i64 d.amt, .slice d.bA d.bn d.bc, .int .i64 d.t0, .int .i64 d.t1, .int .i64 d.t2, .int .i64 d.t3, .int .i64 d.t4] 36)).alloc (.cells #[.int .i64 0, .string ⟨#[]⟩, .string ⟨#[]⟩, .slice none 0 0] 24)).drew.heap[w.heap.size + 1]? = some (.cells #[.int .i64 0, .string ⟨#[]⟩, .string ⟨#[]⟩, .slice none 0 0] 24 (0, 0))) := ⟨by have := heap_alloc_new (w.alloc (.cells #[.string d.n0, .string d.n1, .string d.n2, .string d.n3, .string d.n4, .string d.n5, .string d.n6, .string d.n7, .string d.n8, .string d.cur, .int .i64 d.amt, .slice d.bA d.bn d.bc, .int .i64 d.t0, .int .i64 d.t1, .int .i64 d.t2, .int .i64 d.t3, .int .i64 d.t4] 36)) (.cells #[.int .i64 0, .string ⟨#[]⟩, .string ⟨#[]⟩, .slice none 0 0] 24); rwa [World.size_alloc] at this⟩
  have hadd : ¬ 9223372036854775807 < head.size + d.n0.size := by omega
  clear hb
  go_enter Tryd.func14, Tryd.ntmps14
  go_wp2_with fail
  refine start_ (n := 10) (S := fun w' => w'.heap[w.heap.size]? = some (.cells #[.string d.n0, .string d.n1, .string d.n2, .string d.n3, .string d.n4, .string d.n5, .string d.n6, .string d.n7, .string d.n8, .string d.cur, .int .i64 d.amt, .slice d.bA d.bn d.bc, .int .i64 d.t0, .int .i64 d.t1, .int .i64 d.t2, .int .i64 d.t3, .int .i64 d.t4] 36 (0, 0))) (ds := [9]) #[false, false, false, false, false, false, false, false, false, false] (by kernel_rfl) rfl rfl K0.out (fun hHeld => ?_)
  refine with_tabW docW.tab1 docW.bits1 (fun HT_ HW_ => ?_)
  generalize ((w.alloc (.cells #[.string d.n0, .string d.n1, .string d.n2, .string d.n3, .string d.n4, .string d.n5, .string d.n6, .string d.n7, .string d.n8, .string d.cur, .int .i64 d.amt, .slice d.bA d.bn d.bc, .int .i64 d.t0, .int .i64 d.t1, .int .i64 d.t2, .int .i64 d.t3, .int .i64 d.t4] 36)).alloc (.cells #[.int .i64 0, .string ⟨#[]⟩, .string ⟨#[]⟩, .slice none 0 0] 24)).drew = w6 at B0 K0 K1 hHeld ⊢
  refine pure_ (i := 0) (N := some 11) (v := ?_) (a' := ?_) #[true, false, false, false, false, false, false, false, false, false] rfl rfl (any_of HT_.out (by kernel_rfl)) (fun _ _ _ h => h) (Or.inl ⟨by rfl, ?_⟩) ?_ ?_
  rotate_left
  · intro w'
    go_simp
    with_reducible rfl
  rotate_left
  · simp only [Act.put, List.setIfInBounds_toArray, List.set_cons_zero, List.set_cons_succ, i64_w, i32_w]
    rfl
  refine pure_ (i := 1) (N := some 12) (v := ?_) (a' := ?_) #[true, true, false, false, false, false, false, false, false, false] rfl rfl (any_of HT_.out (by kernel_rfl)) (fun _ _ _ h => h) (Or.inl ⟨by rfl, ?_⟩) ?_ ?_
  rotate_left
  · intro w'
    go_simp
    with_reducible rfl
  rotate_left
  · simp only [Act.put, List.setIfInBounds_toArray, List.set_cons_zero, List.set_cons_succ, i64_w, i32_w]
    rfl
  refine pure_ (i := 2) (N := some 13) (v := ?_) (a' := ?_) #[true, true, true, false, false, false, false, false, false, false] rfl rfl (any_of HT_.out (by kernel_rfl)) (fun _ _ _ h => h) (Or.inl ⟨by rfl, ?_⟩) ?_ ?_
  rotate_left
  · intro w'
    go_simp
    with_reducible rfl
  rotate_left
  · simp only [Act.put, List.setIfInBounds_toArray, List.set_cons_zero, List.set_cons_succ, i64_w, i32_w]
    rfl
  refine take_ (i := 3) (N := some 14) (v := ?_) (a' := ?_) #[true, true, true, true, false, false, false, false, false, false] rfl rfl (take_ofW HT_.out HW_.out (by kernel_rfl)) (fun _ _ _ h => h) (Or.inl ⟨by rfl, ?_⟩) hHeld ?_ ?_
  rotate_left
  · rintro w' hq
    have q0 : w'.cell? ⟨w.heap.size, 0, none⟩ = some (.string d.n0) := (blk_cell hq 0).trans rfl
    go_simp
    with_reducible rfl
  rotate_left
  · simp only [Act.put, List.setIfInBounds_toArray, List.set_cons_zero, List.set_cons_succ, i64_w, i32_w]
    rfl
  refine pure_ (i := 4) (N := some 15) (v := ?_) (a' := ?_) #[true, true, true, true, true, false, false, false, false, false] rfl rfl (any_of HT_.out (by kernel_rfl)) (fun _ _ _ h => h) (Or.inl ⟨by rfl, ?_⟩) ?_ ?_
  rotate_left
  · intro w'
    go_simp
    with_reducible rfl
  rotate_left
  · simp only [Act.put, List.setIfInBounds_toArray, List.set_cons_zero, List.set_cons_succ, i64_w, i32_w]
    rfl
  refine pure_ (i := 5) (N := some 16) (v := ?_) (a' := ?_) #[true, true, true, true, true, true, false, false, false, false] rfl rfl (any_of HT_.out (by kernel_rfl)) (fun _ _ _ h => h) (Or.inl ⟨by rfl, ?_⟩) ?_ ?_
  rotate_left
  · intro w'
    go_simp
    with_reducible rfl
  rotate_left
  · simp only [Act.put, List.setIfInBounds_toArray, List.set_cons_zero, List.set_cons_succ, i64_w, i32_w]
    rfl
  refine pure_ (i := 6) (N := some 17) (v := ?_) (a' := ?_) #[true, true, true, true, true, true, true, false, false, false] rfl rfl (any_of HT_.out (by kernel_rfl)) (fun _ _ _ h => h) (Or.inl ⟨by rfl, ?_⟩) ?_ ?_
  rotate_left
  · intro w'
    go_simp
    with_reducible rfl
  rotate_left
  · simp only [Act.put, List.setIfInBounds_toArray, List.set_cons_zero, List.set_cons_succ, i64_w, i32_w]
    rfl
  refine one_ (i := 7) (N := some 18) #[true, true, true, true, true, true, true, true, false, false] rfl rfl (one_of HT_.out (by kernel_rfl)) (by decide) (fun K hK => ?_)
  refine goes_ Tryd.func30 (by kernel_rfl) rfl #[.slice (some ⟨b, 0, none⟩) (2 * ps.length) cap] (by rfl) rfl rfl (by first | (go_simp; done) | (go_simp; rfl)) ?_
  refine (HF.out w6 B0.out).mono ?_
  rintro e w7 ⟨u, rfl, hR, hB7⟩
  obtain ⟨A1, c1_, rfl⟩ := Kd.R_slice hR
  refine ⟨_, rfl, ?_⟩
  replace K0 := Aside0.mk (blk_below' K0.out hB7)
  replace K1 := Aside0.mk (blk_below' K1.out hB7)
  replace hR := Aside0.mk (R42_le hR B0.out.size)
  replace B0 := Aside0.mk (B0.out.trans (hB7.mono B0.out.size))
  clear hB7 HF
  refine hK.out _ _ K0.out (fun hHeld => ?_)
  clear hK K
  refine norm_ (a' := ?_) ?_ ?_
  rotate_left
  · show Act.put _ (some 18) _ = _
    simp only [Act.put, List.setIfInBounds_toArray, List.set_cons_zero, List.set_cons_succ, i64_w, i32_w]
    rfl
  refine pure_ (i := 8) (N := some 19) (v := ?_) (a' := ?_) #[true, true, true, true, true, true, true, true, true, false] rfl rfl (any_of HT_.out (by kernel_rfl)) (fun _ _ _ h => h) (Or.inl ⟨by rfl, ?_⟩) ?_ ?_
  rotate_left
  · intro w'
    go_simp
    with_reducible rfl
  rotate_left
  · simp only [Act.put, List.setIfInBounds_toArray, List.set_cons_zero, List.set_cons_succ, i64_w, i32_w]
    rfl
  obtain ⟨c0, c1, c2, c3, z0, z1, z2, z3⟩ := box4 K1.out
  refine last_ (i := 9) (N := none) #[true, true, true, true, true, true, true, true, true, true] rfl rfl (one_of HT_.out (by kernel_rfl)) (by decide) (fun K hK => ?_)
  rw [if_pos (by rfl)]
  unfold Oper.wp
  go_simp
  refine hK.out _ _ ?_
  clear hK K
  refine done_ (done_of HT_.out (by kernel_rfl)) ?_
  clear hHeld HT_ HW_ c0 c1 c2 c3 z0 z1 z2 z3
  obtain ⟨hg, K2⟩ := put4 K1.out (.int .i64 k) (.string (head ++ d.n0)) (.string iss) (.slice A1 ps.length c1_)
  have hR2 := Aside0.mk (R42_kept hR.out hg (fun k e => by injection e with e; subst e; exact R42_ne4 K1.out (by decide) hR.out))
  have hB2 := Aside0.mk (B0.out.grown hg B0.out.size (fun j e => by injection e with e; omega))
  obtain ⟨c0, c1, c2, c3, _, _, _, _⟩ := box4 K2
  clear hg K2 hR K1 K0 B0
  go_wp2_with fail
  refine bodyPost_ret (v := .agg #[.int .i64 k, .string (head ++ d.n0), .string iss, .slice A1 ps.length c1_]) ?_ rfl ⟨_, rfl, hR2.out, hB2.out⟩
  simp [results, Tryd.results14, go_sem, c0, c1, c2, c3]
def invoiceW.T1 : Bool × List (List Nat × List Nat) := (true, [([], []), ([], []), ([1], [1]), ([], []), ([3], [3]), ([], []), ([5], [5]), ([], []), ([7], [7]), ([8], [8]), ([], []), ([10], [10]), ([11], [11]), ([12], [12]), ([], []), ([14], [14]), ([], []), ([16], [16]), ([], []), ([18], [18]), ([19], [19]), ([20, 13], [20]), ([], []), ([22], [22]), ([23, 21], [23]), ([4, 6, 9, 13, 15, 17, 21, 24], [4, 6, 9, 13, 15, 17, 21, 24]), ([0, 2, 25, 24], [0, 2, 25]), ([26, 26, 0, 1, 2, 3, 4, 5, 6, 7, 8, 9, 10, 11, 12, 13, 14, 15, 16, 17, 18, 19, 20, 21, 22, 23, 24, 25, 26], [26])])
def invoiceW.B1 : List Nat := [0, 0, 2, 0, 8, 0, 32, 0, 128, 384, 0, 1024, 3072, 7168, 0, 16384, 0, 65536, 0, 262144, 786432, 1850368, 0, 4194304, 16530432, 33554424, 67108863, 134217727]
theorem invoiceW.tab1 : rtab .any (opsOf Tryd.f9 1) = invoiceW.T1 := by kernel_rfl
theorem invoiceW.bits1 : waitsOk invoiceW.T1.2 invoiceW.B1 = true := by kernel_rfl
/-- The fields of invoice. -/
def invoiceF (d : DealR) : List S42 := [⟨(⟨#[115, 101, 108, 108, 101, 114]⟩ : ByteArray), d.n1⟩, ⟨(⟨#[98, 117, 121, 101, 114]⟩ : ByteArray), d.n2⟩, ⟨(⟨#[99, 117, 114, 114, 101, 110, 99, 121]⟩ : ByteArray), d.cur⟩, ⟨(⟨#[115, 117, 109]⟩ : ByteArray), tx (Lib.itoa d.amt)⟩, ⟨(⟨#[102, 114, 111, 109]⟩ : ByteArray), d.n7⟩, ⟨(⟨#[116, 111]⟩ : ByteArray), d.n8⟩, ⟨(⟨#[98, 111, 120, 101, 115]⟩ : ByteArray), tx (Lib.itoa d.bn)⟩, ⟨(⟨#[116, 101, 114, 109]⟩ : ByteArray), tx (Lib.itoa d.t0)⟩]
set_option maxHeartbeats 8000000 in
set_option maxRecDepth 100000 in
theorem invoice_calls (d : DealR) (ha : -9223372036854775808 ≤ d.amt ∧ d.amt ≤ 9223372036854775807) (ht : -9223372036854775808 ≤ d.t0 ∧ d.t0 ≤ 9223372036854775807) (hbn : d.bn ≤ 9223372036854775807) (hsz : d.n0.size ≤ 900000) (w : World) (hg : Glob w) :
    Calls Tryd.prog 9 #[.agg #[.string d.n0, .string d.n1, .string d.n2, .string d.n3, .string d.n4, .string d.n5, .string d.n6, .string d.n7, .string d.n8, .string d.cur, .int .i64 d.amt, .slice d.bA d.bn d.bc, .int .i64 d.t0, .int .i64 d.t1, .int .i64 d.t2, .int .i64 d.t3, .int .i64 d.t4]] w fun e w' => ∃ v, e = .returned (.agg #[.int .i64 0, .string ((⟨#[105, 118, 45]⟩ : ByteArray) ++ d.n0), .string d.n1, v]) ∧ Kd.R k42 42 w' w.heap.size (fun _ => True) v (invoiceF d) ∧ Below w.heap.size w w' := by
  have HU := Aside0.mk fun w2 (h : Below w.heap.size w w2) => units_calls d.amt ha w2 (hg.below h)
  have HM := Aside0.mk fun w2 (h : Below w.heap.size w w2) => many_calls (d.bn : Int) (by omega) w2 (hg.below h)
  have HI := Aside0.mk fun w2 (h : Below w.heap.size w w2) => itoa_calls d.t0 ht w2 (hg.below h)
  have B0 : Aside0 (Below w.heap.size w ((w.alloc (.cells #[.string d.n0, .string d.n1, .string d.n2, .string d.n3, .string d.n4, .string d.n5, .string d.n6, .string d.n7, .string d.n8, .string d.cur, .int .i64 d.amt, .slice d.bA d.bn d.bc, .int .i64 d.t0, .int .i64 d.t1, .int .i64 d.t2, .int .i64 d.t3, .int .i64 d.t4] 36)).alloc (.cells #[.int .i64 0, .string ⟨#[]⟩, .string ⟨#[]⟩, .slice none 0 0] 24)).drew) := ⟨(((Below.refl _ w).alloc (Nat.le_refl _) _).alloc (by simp) _).drew⟩
  have K0 : Aside0 (((w.alloc (.cells #[.string d.n0, .string d.n1, .string d.n2, .string d.n3, .string d.n4, .string d.n5, .string d.n6, .string d.n7, .string d.n8, .string d.cur, .int .i64 d.amt, .slice d.bA d.bn d.bc, .int .i64 d.t0, .int .i64 d.t1, .int .i64 d.t2, .int .i64 d.t3, .int .i64 d.t4] 36)).alloc (.cells #[.int .i64 0, .string ⟨#[]⟩, .string ⟨#[]⟩, .slice none 0 0] 24)).drew.heap[w.heap.size]? = some (.cells #[.string d.n0, .string d.n1, .string d.n2, .string d.n3, .string d.n4, .string d.n5, .string d.n6, .string d.n7, .string d.n8, .string d.cur, .int .i64 d.amt, .slice d.bA d.bn d.bc, .int .i64 d.t0, .int .i64 d.t1, .int .i64 d.t2, .int .i64 d.t3, .int .i64 d.t4] 36 (0, 0))) := ⟨(Below.heap_alloc _ _ _ (by simp)).trans (heap_alloc_new w _)⟩
  have K1 : Aside0 (((w.alloc (.cells #[.string d.n0, .string d.n1, .string d.n2, .string d.n3, .string d.n4, .string d.n5, .string d.n6, .string d.n7, .string d.n8, .string d.cur, .int .i64 d.amt, .slice d.bA d.bn d.bc, .int .i64 d.t0, .int .i64 d.t1, .int .i64 d.t2, .int .i64 d.t3, .int .i64 d.t4] 36)).alloc (.cells #[.int .i64 0, .string ⟨#[]⟩, .string ⟨#[]⟩, .slice none 0 0] 24)).drew.heap[w.heap.size + 1]? = some (.cells #[.int .i64 0, .string ⟨#[]⟩, .string ⟨#[]⟩, .slice none 0 0] 24 (0, 0))) := ⟨by have := heap_alloc_new (w.alloc (.cells #[.string d.n0, .string d.n1, .string d.n2, .string d.n3, .string d.n4, .string d.n5, .string d.n6, .string d.n7, .string d.n8, .string d.cur, .int .i64 d.amt, .slice d.bA d.bn d.bc, .int .i64 d.t0, .int .i64 d.t1, .int .i64 d.t2, .int .i64 d.t3, .int .i64 d.t4] 36)) (.cells #[.int .i64 0, .string ⟨#[]⟩, .string ⟨#[]⟩, .slice none 0 0] 24); rwa [World.size_alloc] at this⟩
  have HD := Aside0.mk fun w2 b (hb : w2.heap[b]? = some (.cells (pairC (invoiceF d)).toArray 9 (0, 0))) => doc_calls 0 (⟨#[105, 118, 45]⟩ : ByteArray) d.n1 d b 16 (invoiceF d) 16 rfl (show 8 ≤ 1000 by decide) (show 16 ≤ 16 by decide) (by decide) (by have : (⟨#[105, 118, 45]⟩ : ByteArray).size = 3 := rfl; omega) w2 hb
  clear hg
  go_enter Tryd.func9, Tryd.ntmps9
  go_wp2_with fail
  refine start_ (n := 28) (S := fun w' => w'.heap[w.heap.size]? = some (.cells #[.string d.n0, .string d.n1, .string d.n2, .string d.n3, .string d.n4, .string d.n5, .string d.n6, .string d.n7, .string d.n8, .string d.cur, .int .i64 d.amt, .slice d.bA d.bn d.bc, .int .i64 d.t0, .int .i64 d.t1, .int .i64 d.t2, .int .i64 d.t3, .int .i64 d.t4] 36 (0, 0))) (ds := [27]) #[false, false, false, false, false, false, false, false, false, false, false, false, false, false, false, false, false, false, false, false, false, false, false, false, false, false, false, false] (by kernel_rfl) rfl rfl K0.out (fun hHeld => ?_)
  refine with_tabW invoiceW.tab1 invoiceW.bits1 (fun HT_ HW_ => ?_)
  generalize ((w.alloc (.cells #[.string d.n0, .string d.n1, .string d.n2, .string d.n3, .string d.n4, .string d.n5, .string d.n6, .string d.n7, .string d.n8, .string d.cur, .int .i64 d.amt, .slice d.bA d.bn d.bc, .int .i64 d.t0, .int .i64 d.t1, .int .i64 d.t2, .int .i64 d.t3, .int .i64 d.t4] 36)).alloc (.cells #[.int .i64 0, .string ⟨#[]⟩, .string ⟨#[]⟩, .slice none 0 0] 24)).drew = w6 at B0 K0 K1 hHeld ⊢
  refine take_ (i := 0) (N := some 3) (v := ?_) (a' := ?_) #[true, false, false, false, false, false, false, false, false, false, false, false, false, false, false, false, false, false, false, false, false, false, false, false, false, false, false, false] rfl rfl (take_ofW HT_.out HW_.out (by kernel_rfl)) (fun _ _ _ h => h) (Or.inl ⟨by rfl, ?_⟩) hHeld ?_ ?_
  rotate_left
  · rintro w' hq
    have q0 : w'.cell? ⟨w.heap.size, 0, none⟩ = some (.string d.n0) := (blk_cell hq 0).trans rfl
    have q1 : w'.cell? ⟨w.heap.size, 1, none⟩ = some (.string d.n1) := (blk_cell hq 1).trans rfl
    have q2 : w'.cell? ⟨w.heap.size, 2, none⟩ = some (.string d.n2) := (blk_cell hq 2).trans rfl
    have q3 : w'.cell? ⟨w.heap.size, 3, none⟩ = some (.string d.n3) := (blk_cell hq 3).trans rfl
    have q4 : w'.cell? ⟨w.heap.size, 4, none⟩ = some (.string d.n4) := (blk_cell hq 4).trans rfl
    have q5 : w'.cell? ⟨w.heap.size, 5, none⟩ = some (.string d.n5) := (blk_cell hq 5).trans rfl
    have q6 : w'.cell? ⟨w.heap.size, 6, none⟩ = some (.string d.n6) := (blk_cell hq 6).trans rfl
    have q7 : w'.cell? ⟨w.heap.size, 7, none⟩ = some (.string d.n7) := (blk_cell hq 7).trans rfl
    have q8 : w'.cell? ⟨w.heap.size, 8, none⟩ = some (.string d.n8) := (blk_cell hq 8).trans rfl
    have q9 : w'.cell? ⟨w.heap.size, 9, none⟩ = some (.string d.cur) := (blk_cell hq 9).trans rfl
    have q10 : w'.cell? ⟨w.heap.size, 10, none⟩ = some (.int .i64 d.amt) := (blk_cell hq 10).trans rfl
    have q11 : w'.cell? ⟨w.heap.size, 11, none⟩ = some (.slice d.bA d.bn d.bc) := (blk_cell hq 11).trans rfl
    have q12 : w'.cell? ⟨w.heap.size, 12, none⟩ = some (.int .i64 d.t0) := (blk_cell hq 12).trans rfl
    have q13 : w'.cell? ⟨w.heap.size, 13, none⟩ = some (.int .i64 d.t1) := (blk_cell hq 13).trans rfl
    have q14 : w'.cell? ⟨w.heap.size, 14, none⟩ = some (.int .i64 d.t2) := (blk_cell hq 14).trans rfl
    have q15 : w'.cell? ⟨w.heap.size, 15, none⟩ = some (.int .i64 d.t3) := (blk_cell hq 15).trans rfl
    have q16 : w'.cell? ⟨w.heap.size, 16, none⟩ = some (.int .i64 d.t4) := (blk_cell hq 16).trans rfl
    go_simp
    with_reducible rfl
  rotate_left
  · simp only [Act.put, List.setIfInBounds_toArray, List.set_cons_zero, List.set_cons_succ, i64_w, i32_w]
    rfl
  refine pure_ (i := 1) (N := some 4) (v := ?_) (a' := ?_) #[true, true, false, false, false, false, false, false, false, false, false, false, false, false, false, false, false, false, false, false, false, false, false, false, false, false, false, false] rfl rfl (any_of HT_.out (by kernel_rfl)) (fun _ _ _ h => h) (Or.inl ⟨by rfl, ?_⟩) ?_ ?_
  rotate_left
  · intro w'
    go_simp
    with_reducible rfl
  rotate_left
  · simp only [Act.put, List.setIfInBounds_toArray, List.set_cons_zero, List.set_cons_succ, i64_w, i32_w]
    rfl
  refine take_ (i := 2) (N := some 5) (v := ?_) (a' := ?_) #[true, true, true, false, false, false, false, false, false, false, false, false, false, false, false, false, false, false, false, false, false, false, false, false, false, false, false, false] rfl rfl (take_ofW HT_.out HW_.out (by kernel_rfl)) (fun _ _ _ h => h) (Or.inl ⟨by rfl, ?_⟩) hHeld ?_ ?_
  rotate_left
  · rintro w' hq
    have q1 : w'.cell? ⟨w.heap.size, 1, none⟩ = some (.string d.n1) := (blk_cell hq 1).trans rfl
    go_simp
    with_reducible rfl
  rotate_left
  · simp only [Act.put, List.setIfInBounds_toArray, List.set_cons_zero, List.set_cons_succ, i64_w, i32_w]
    rfl
  refine pure_ (i := 3) (N := some 6) (v := ?_) (a' := ?_) #[true, true, true, true, false, false, false, false, false, false, false, false, false, false, false, false, false, false, false, false, false, false, false, false, false, false, false, false] rfl rfl (any_of HT_.out (by kernel_rfl)) (fun _ _ _ h => h) (Or.inl ⟨by rfl, ?_⟩) ?_ ?_
  rotate_left
  · intro w'
    go_simp
    with_reducible rfl
  rotate_left
  · simp only [Act.put, List.setIfInBounds_toArray, List.set_cons_zero, List.set_cons_succ, i64_w, i32_w]
    rfl
  refine take_ (i := 4) (N := some 7) (v := ?_) (a' := ?_) #[true, true, true, true, true, false, false, false, false, false, false, false, false, false, false, false, false, false, false, false, false, false, false, false, false, false, false, false] rfl rfl (take_ofW HT_.out HW_.out (by kernel_rfl)) (fun _ _ _ h => h) (Or.inl ⟨by rfl, ?_⟩) hHeld ?_ ?_
  rotate_left
  · rintro w' hq
    have q1 : w'.cell? ⟨w.heap.size, 1, none⟩ = some (.string d.n1) := (blk_cell hq 1).trans rfl
    go_simp
    with_reducible rfl
  rotate_left
  · simp only [Act.put, List.setIfInBounds_toArray, List.set_cons_zero, List.set_cons_succ, i64_w, i32_w]
    rfl
  refine pure_ (i := 5) (N := some 8) (v := ?_) (a' := ?_) #[true, true, true, true, true, true, false, false, false, false, false, false, false, false, false, false, false, false, false, false, false, false, false, false, false, false, false, false] rfl rfl (any_of HT_.out (by kernel_rfl)) (fun _ _ _ h => h) (Or.inl ⟨by rfl, ?_⟩) ?_ ?_
  rotate_left
  · intro w'
    go_simp
    with_reducible rfl
  rotate_left
  · simp only [Act.put, List.setIfInBounds_toArray, List.set_cons_zero, List.set_cons_succ, i64_w, i32_w]
    rfl
  refine take_ (i := 6) (N := some 9) (v := ?_) (a' := ?_) #[true, true, true, true, true, true, true, false, false, false, false, false, false, false, false, false, false, false, false, false, false, false, false, false, false, false, false, false] rfl rfl (take_ofW HT_.out HW_.out (by kernel_rfl)) (fun _ _ _ h => h) (Or.inl ⟨by rfl, ?_⟩) hHeld ?_ ?_
  rotate_left
  · rintro w' hq
    have q2 : w'.cell? ⟨w.heap.size, 2, none⟩ = some (.string d.n2) := (blk_cell hq 2).trans rfl
    go_simp
    with_reducible rfl
  rotate_left
  · simp only [Act.put, List.setIfInBounds_toArray, List.set_cons_zero, List.set_cons_succ, i64_w, i32_w]
    rfl
  refine pure_ (i := 7) (N := some 10) (v := ?_) (a' := ?_) #[true, true, true, true, true, true, true, true, false, false, false, false, false, false, false, false, false, false, false, false, false, false, false, false, false, false, false, false] rfl rfl (any_of HT_.out (by kernel_rfl)) (fun _ _ _ h => h) (Or.inl ⟨by rfl, ?_⟩) ?_ ?_
  rotate_left
  · intro w'
    go_simp
    with_reducible rfl
  rotate_left
  · simp only [Act.put, List.setIfInBounds_toArray, List.set_cons_zero, List.set_cons_succ, i64_w, i32_w]
    rfl
  refine pure_ (i := 8) (N := some 11) (v := ?_) (a' := ?_) #[true, true, true, true, true, true, true, true, true, false, false, false, false, false, false, false, false, false, false, false, false, false, false, false, false, false, false, false] rfl rfl (any_of HT_.out (by kernel_rfl)) (fun _ _ _ h => h) (Or.inl ⟨by rfl, ?_⟩) ?_ ?_
  rotate_left
  · intro w'
    go_simp
    with_reducible rfl
  rotate_left
  · simp only [Act.put, List.setIfInBounds_toArray, List.set_cons_zero, List.set_cons_succ, i64_w, i32_w]
    rfl
  refine take_ (i := 9) (N := some 12) (v := ?_) (a' := ?_) #[true, true, true, true, true, true, true, true, true, true, false, false, false, false, false, false, false, false, false, false, false, false, false, false, false, false, false, false] rfl rfl (take_ofW HT_.out HW_.out (by kernel_rfl)) (fun _ _ _ h => h) (Or.inl ⟨by rfl, ?_⟩) hHeld ?_ ?_
  rotate_left
  · rintro w' hq
    have q9 : w'.cell? ⟨w.heap.size, 9, none⟩ = some (.string d.cur) := (blk_cell hq 9).trans rfl
    go_simp
    with_reducible rfl
  rotate_left
  · simp only [Act.put, List.setIfInBounds_toArray, List.set_cons_zero, List.set_cons_succ, i64_w, i32_w]
    rfl
  refine pure_ (i := 10) (N := some 13) (v := ?_) (a' := ?_) #[true, true, true, true, true, true, true, true, true, true, true, false, false, false, false, false, false, false, false, false, false, false, false, false, false, false, false, false] rfl rfl (any_of HT_.out (by kernel_rfl)) (fun _ _ _ h => h) (Or.inl ⟨by rfl, ?_⟩) ?_ ?_
  rotate_left
  · intro w'
    go_simp
    with_reducible rfl
  rotate_left
  · simp only [Act.put, List.setIfInBounds_toArray, List.set_cons_zero, List.set_cons_succ, i64_w, i32_w]
    rfl
  refine pure_ (i := 11) (N := some 14) (v := ?_) (a' := ?_) #[true, true, true, true, true, true, true, true, true, true, true, true, false, false, false, false, false, false, false, false, false, false, false, false, false, false, false, false] rfl rfl (any_of HT_.out (by kernel_rfl)) (fun _ _ _ h => h) (Or.inl ⟨by rfl, ?_⟩) ?_ ?_
  rotate_left
  · intro w'
    go_simp
    with_reducible rfl
  rotate_left
  · simp only [Act.put, List.setIfInBounds_toArray, List.set_cons_zero, List.set_cons_succ, i64_w, i32_w]
    rfl
  refine take_ (i := 12) (N := some 15) (v := ?_) (a' := ?_) #[true, true, true, true, true, true, true, true, true, true, true, true, true, false, false, false, false, false, false, false, false, false, false, false, false, false, false, false] rfl rfl (take_ofW HT_.out HW_.out (by kernel_rfl)) (fun _ _ _ h => h) (Or.inl ⟨by rfl, ?_⟩) hHeld ?_ ?_
  rotate_left
  · rintro w' hq
    have q10 : w'.cell? ⟨w.heap.size, 10, none⟩ = some (.int .i64 d.amt) := (blk_cell hq 10).trans rfl
    go_simp
    with_reducible rfl
  rotate_left
  · simp only [Act.put, List.setIfInBounds_toArray, List.set_cons_zero, List.set_cons_succ, i64_w, i32_w]
    rfl
  refine pure_ (i := 14) (N := some 17) (v := ?_) (a' := ?_) #[true, true, true, true, true, true, true, true, true, true, true, true, true, false, true, false, false, false, false, false, false, false, false, false, false, false, false, false] rfl rfl (any_of HT_.out (by kernel_rfl)) (fun _ _ _ h => h) (Or.inl ⟨by rfl, ?_⟩) ?_ ?_
  rotate_left
  · intro w'
    go_simp
    with_reducible rfl
  rotate_left
  · simp only [Act.put, List.setIfInBounds_toArray, List.set_cons_zero, List.set_cons_succ, i64_w, i32_w]
    rfl
  refine take_ (i := 15) (N := some 18) (v := ?_) (a' := ?_) #[true, true, true, true, true, true, true, true, true, true, true, true, true, false, true, true, false, false, false, false, false, false, false, false, false, false, false, false] rfl rfl (take_ofW HT_.out HW_.out (by kernel_rfl)) (fun _ _ _ h => h) (Or.inl ⟨by rfl, ?_⟩) hHeld ?_ ?_
  rotate_left
  · rintro w' hq
    have q7 : w'.cell? ⟨w.heap.size, 7, none⟩ = some (.string d.n7) := (blk_cell hq 7).trans rfl
    go_simp
    with_reducible rfl
  rotate_left
  · simp only [Act.put, List.setIfInBounds_toArray, List.set_cons_zero, List.set_cons_succ, i64_w, i32_w]
    rfl
  refine pure_ (i := 16) (N := some 19) (v := ?_) (a' := ?_) #[true, true, true, true, true, true, true, true, true, true, true, true, true, false, true, true, true, false, false, false, false, false, false, false, false, false, false, false] rfl rfl (any_of HT_.out (by kernel_rfl)) (fun _ _ _ h => h) (Or.inl ⟨by rfl, ?_⟩) ?_ ?_
  rotate_left
  · intro w'
    go_simp
    with_reducible rfl
  rotate_left
  · simp only [Act.put, List.setIfInBounds_toArray, List.set_cons_zero, List.set_cons_succ, i64_w, i32_w]
    rfl
  refine take_ (i := 17) (N := some 20) (v := ?_) (a' := ?_) #[true, true, true, true, true, true, true, true, true, true, true, true, true, false, true, true, true, true, false, false, false, false, false, false, false, false, false, false] rfl rfl (take_ofW HT_.out HW_.out (by kernel_rfl)) (fun _ _ _ h => h) (Or.inl ⟨by rfl, ?_⟩) hHeld ?_ ?_
  rotate_left
  · rintro w' hq
    have q8 : w'.cell? ⟨w.heap.size, 8, none⟩ = some (.string d.n8) := (blk_cell hq 8).trans rfl
    go_simp
    with_reducible rfl
  rotate_left
  · simp only [Act.put, List.setIfInBounds_toArray, List.set_cons_zero, List.set_cons_succ, i64_w, i32_w]
    rfl
  refine pure_ (i := 18) (N := some 21) (v := ?_) (a' := ?_) #[true, true, true, true, true, true, true, true, true, true, true, true, true, false, true, true, true, true, true, false, false, false, false, false, false, false, false, false] rfl rfl (any_of HT_.out (by kernel_rfl)) (fun _ _ _ h => h) (Or.inl ⟨by rfl, ?_⟩) ?_ ?_
  rotate_left
  · intro w'
    go_simp
    with_reducible rfl
  rotate_left
  · simp only [Act.put, List.setIfInBounds_toArray, List.set_cons_zero, List.set_cons_succ, i64_w, i32_w]
    rfl
  refine take_ (i := 19) (N := some 22) (v := ?_) (a' := ?_) #[true, true, true, true, true, true, true, true, true, true, true, true, true, false, true, true, true, true, true, true, false, false, false, false, false, false, false, false] rfl rfl (take_ofW HT_.out HW_.out (by kernel_rfl)) (fun _ _ _ h => h) (Or.inl ⟨by rfl, ?_⟩) hHeld ?_ ?_
  rotate_left
  · rintro w' hq
    have q11 : w'.cell? ⟨w.heap.size, 11, none⟩ = some (.slice d.bA d.bn d.bc) := (blk_cell hq 11).trans rfl
    go_simp
    with_reducible rfl
  rotate_left
  · simp only [Act.put, List.setIfInBounds_toArray, List.set_cons_zero, List.set_cons_succ, i64_w, i32_w]
    rfl
  refine pure_ (i := 20) (N := some 23) (v := ?_) (a' := ?_) #[true, true, true, true, true, true, true, true, true, true, true, true, true, false, true, true, true, true, true, true, true, false, false, false, false, false, false, false] rfl rfl (any_of HT_.out (by kernel_rfl)) (fun _ _ _ h => h) (Or.inl ⟨by rfl, ?_⟩) ?_ ?_
  rotate_left
  · intro w'
    go_simp
    with_reducible rfl
  rotate_left
  · simp only [Act.put, List.setIfInBounds_toArray, List.set_cons_zero, List.set_cons_succ, i64_w, i32_w]
    rfl
  refine pure_ (i := 22) (N := some 25) (v := ?_) (a' := ?_) #[true, true, true, true, true, true, true, true, true, true, true, true, true, false, true, true, true, true, true, true, true, false, true, false, false, false, false, false] rfl rfl (any_of HT_.out (by kernel_rfl)) (fun _ _ _ h => h) (Or.inl ⟨by rfl, ?_⟩) ?_ ?_
  rotate_left
  · intro w'
    go_simp
    with_reducible rfl
  rotate_left
  · simp only [Act.put, List.setIfInBounds_toArray, List.set_cons_zero, List.set_cons_succ, i64_w, i32_w]
    rfl
  refine take_ (i := 23) (N := some 26) (v := ?_) (a' := ?_) #[true, true, true, true, true, true, true, true, true, true, true, true, true, false, true, true, true, true, true, true, true, false, true, true, false, false, false, false] rfl rfl (take_ofW HT_.out HW_.out (by kernel_rfl)) (fun _ _ _ h => h) (Or.inl ⟨by rfl, ?_⟩) hHeld ?_ ?_
  rotate_left
  · rintro w' hq
    have q12 : w'.cell? ⟨w.heap.size, 12, none⟩ = some (.int .i64 d.t0) := (blk_cell hq 12).trans rfl
    go_simp
    with_reducible rfl
  rotate_left
  · simp only [Act.put, List.setIfInBounds_toArray, List.set_cons_zero, List.set_cons_succ, i64_w, i32_w]
    rfl
  refine one_ (i := 13) (N := some 16) #[true, true, true, true, true, true, true, true, true, true, true, true, true, true, true, true, true, true, true, true, true, false, true, true, false, false, false, false] rfl rfl (one_of HT_.out (by kernel_rfl)) (by decide) (fun K hK => ?_)
  refine goes_ Tryd.func15 (by kernel_rfl) rfl #[.int .i64 d.amt] (by rfl) rfl rfl (by first | (go_simp; done) | (go_simp; rfl)) ?_
  refine (HU.out w6 B0.out).mono ?_
  rintro e w7 ⟨rfl, hB⟩
  refine ⟨_, rfl, ?_⟩
  replace K0 := Aside0.mk (blk_below' K0.out hB)
  replace K1 := Aside0.mk (blk_below' K1.out hB)
  replace B0 := Aside0.mk (B0.out.trans (hB.mono B0.out.size))
  clear hB
  refine hK.out _ _ K0.out (fun hHeld => ?_)
  clear hK K
  refine norm_ (a' := ?_) ?_ ?_
  rotate_left
  · show Act.put _ (some 16) _ = _
    simp only [Act.put, List.setIfInBounds_toArray, List.set_cons_zero, List.set_cons_succ, i64_w, i32_w]
    rfl
  refine one_ (i := 21) (N := some 24) #[true, true, true, true, true, true, true, true, true, true, true, true, true, true, true, true, true, true, true, true, true, true, true, true, false, false, false, false] rfl rfl (one_of HT_.out (by kernel_rfl)) (by decide) (fun K hK => ?_)
  refine goes_ Tryd.func16 (by kernel_rfl) rfl #[.int .i64 (d.bn : Int)] (by rfl) rfl rfl (by first | (go_simp; done) | (go_simp; rfl)) ?_
  refine (HM.out w7 B0.out).mono ?_
  rintro e w8 ⟨rfl, hB⟩
  refine ⟨_, rfl, ?_⟩
  replace K0 := Aside0.mk (blk_below' K0.out hB)
  replace K1 := Aside0.mk (blk_below' K1.out hB)
  replace B0 := Aside0.mk (B0.out.trans (hB.mono B0.out.size))
  clear hB
  refine hK.out _ _ K0.out (fun hHeld => ?_)
  clear hK K
  refine norm_ (a' := ?_) ?_ ?_
  rotate_left
  · show Act.put _ (some 24) _ = _
    simp only [Act.put, List.setIfInBounds_toArray, List.set_cons_zero, List.set_cons_succ, i64_w, i32_w]
    rfl
  refine one_ (i := 24) (N := some 27) #[true, true, true, true, true, true, true, true, true, true, true, true, true, true, true, true, true, true, true, true, true, true, true, true, true, false, false, false] rfl rfl (one_of HT_.out (by kernel_rfl)) (by decide) (fun K hK => ?_)
  refine goes_ Tryd.func17 (by kernel_rfl) rfl #[.int .i64 d.t0] (by rfl) rfl rfl (by first | (go_simp; done) | (go_simp; rfl)) ?_
  refine (HI.out w8 B0.out).mono ?_
  rintro e w9 ⟨rfl, hB⟩
  refine ⟨_, rfl, ?_⟩
  replace K0 := Aside0.mk (blk_below' K0.out hB)
  replace K1 := Aside0.mk (blk_below' K1.out hB)
  replace B0 := Aside0.mk (B0.out.trans (hB.mono B0.out.size))
  clear hB
  refine hK.out _ _ K0.out (fun hHeld => ?_)
  clear hK K
  refine norm_ (a' := ?_) ?_ ?_
  rotate_left
  · show Act.put _ (some 27) _ = _
    simp only [Act.put, List.setIfInBounds_toArray, List.set_cons_zero, List.set_cons_succ, i64_w, i32_w]
    rfl
  refine one_ (i := 25) (N := some 28) #[true, true, true, true, true, true, true, true, true, true, true, true, true, true, true, true, true, true, true, true, true, true, true, true, true, true, false, false] rfl rfl (one_of HT_.out (by kernel_rfl)) (by decide) (fun K hK => ?_)
  refine event_step (v := .slice (some ⟨w9.heap.size, 0, none⟩) 16 16) (w1 := w9.alloc (.cells (pairC (invoiceF d)).toArray 9)) (by rfl) (by first | (go_simp; done) | (go_simp; rfl)) ?_
  refine hK.out _ _ (blk_alloc K0.out _) (fun hHeld => ?_)
  clear hK K
  refine norm_ (a' := ?_) ?_ ?_
  rotate_left
  · show Act.put _ (some 28) _ = _
    simp only [Act.put, List.setIfInBounds_toArray, List.set_cons_zero, List.set_cons_succ, i64_w, i32_w]
    rfl
  refine one_ (i := 26) (N := some 29) #[true, true, true, true, true, true, true, true, true, true, true, true, true, true, true, true, true, true, true, true, true, true, true, true, true, true, true, false] rfl rfl (one_of HT_.out (by kernel_rfl)) (by decide) (fun K hK => ?_)
  refine goes_ Tryd.func14 (by kernel_rfl) rfl #[.int .i64 0, .string (⟨#[105, 118, 45]⟩ : ByteArray), .agg #[.string d.n0, .string d.n1, .string d.n2, .string d.n3, .string d.n4, .string d.n5, .string d.n6, .string d.n7, .string d.n8, .string d.cur, .int .i64 d.amt, .slice d.bA d.bn d.bc, .int .i64 d.t0, .int .i64 d.t1, .int .i64 d.t2, .int .i64 d.t3, .int .i64 d.t4], .string d.n1, .slice (some ⟨w9.heap.size, 0, none⟩) 16 16] (by rfl) rfl rfl (by first | (go_simp; done) | (go_simp; rfl)) ?_
  refine (HD.out _ w9.heap.size (heap_alloc_new w9 _)).mono ?_
  rintro e w11 ⟨u, rfl, hR, hB⟩
  obtain ⟨A1, c1_, rfl⟩ := Kd.R_slice hR
  refine ⟨_, rfl, ?_⟩
  replace K0 := Aside0.mk (blk_below' (blk_alloc K0.out _) hB)
  replace K1 := Aside0.mk (blk_below' (blk_alloc K1.out _) hB)
  have B1 := B0.out.alloc B0.out.size (.cells (pairC (invoiceF d)).toArray 9)
  replace hR := Aside0.mk (R42_le hR B1.size)
  replace B0 := Aside0.mk (B1.trans (hB.mono B1.size))
  clear hB HD B1
  refine hK.out _ _ K0.out (fun hHeld => ?_)
  clear hK K
  refine norm_ (a' := ?_) ?_ ?_
  rotate_left
  · show Act.put _ (some 29) _ = _
    simp only [Act.put, List.setIfInBounds_toArray, List.set_cons_zero, List.set_cons_succ, i64_w, i32_w]
    rfl
  obtain ⟨c0, c1, c2, c3, z0, z1, z2, z3⟩ := box4 K1.out
  refine last_ (i := 27) (N := none) #[true, true, true, true, true, true, true, true, true, true, true, true, true, true, true, true, true, true, true, true, true, true, true, true, true, true, true, true] rfl rfl (one_of HT_.out (by kernel_rfl)) (by decide) (fun K hK => ?_)
  rw [if_pos (by rfl)]
  unfold Oper.wp
  go_simp
  refine hK.out _ _ ?_
  clear hK K
  refine done_ (done_of HT_.out (by kernel_rfl)) ?_
  clear hHeld HT_ HW_ c0 c1 c2 c3 z0 z1 z2 z3
  obtain ⟨hgw, K2⟩ := put4 K1.out (.int .i64 0) (.string ((⟨#[105, 118, 45]⟩ : ByteArray) ++ d.n0)) (.string d.n1) (.slice A1 (invoiceF d).length c1_)
  have hR2 := Aside0.mk (R42_kept hR.out hgw (fun k e => by injection e with e; subst e; exact R42_ne4 K1.out (by decide) hR.out))
  have hB2 := Aside0.mk (B0.out.grown hgw B0.out.size (fun j e => by injection e with e; omega))
  obtain ⟨c0, c1, c2, c3, _, _, _, _⟩ := box4 K2
  clear hgw K2 hR K1 K0 B0
  go_wp2_with fail
  refine bodyPost_ret (v := .agg #[.int .i64 0, .string ((⟨#[105, 118, 45]⟩ : ByteArray) ++ d.n0), .string d.n1, .slice A1 (invoiceF d).length c1_]) ?_ rfl ⟨_, rfl, hR2.out, hB2.out⟩
  simp [results, Tryd.results9, go_sem, c0, c1, c2, c3]
def packingW.T1 : Bool × List (List Nat × List Nat) := (true, [([], []), ([], []), ([1], [1]), ([], []), ([3], [3]), ([], []), ([5], [5]), ([], []), ([7], [7]), ([], []), ([9], [9]), ([10], [10]), ([11], [11]), ([], []), ([13], [13]), ([14, 12], [14]), ([15, 15], [15]), ([], []), ([17], [17]), ([18, 16], [18]), ([4, 6, 8, 12, 16, 19], [4, 6, 8, 12, 16, 19]), ([0, 2, 20, 19], [0, 2, 20]), ([21, 21, 0, 1, 2, 3, 4, 5, 6, 7, 8, 9, 10, 11, 12, 13, 14, 15, 16, 17, 18, 19, 20, 21], [21])])
def packingW.B1 : List Nat := [0, 0, 2, 0, 8, 0, 32, 0, 128, 0, 512, 1536, 3584, 0, 8192, 32256, 65024, 0, 131072, 523776, 1048568, 2097151, 4194303]
theorem packingW.tab1 : rtab .any (opsOf Tryd.f11 1) = packingW.T1 := by kernel_rfl
theorem packingW.bits1 : waitsOk packingW.T1.2 packingW.B1 = true := by kernel_rfl
/-- The fields of packing. -/
def packingF (d : DealR) (ms ct : ByteArray) : List S42 := [⟨(⟨#[115, 101, 108, 108, 101, 114]⟩ : ByteArray), d.n1⟩, ⟨(⟨#[102, 114, 111, 109]⟩ : ByteArray), d.n7⟩, ⟨(⟨#[116, 111]⟩ : ByteArray), d.n8⟩, ⟨(⟨#[98, 111, 120, 101, 115]⟩ : ByteArray), tx (Lib.itoa d.bn)⟩, ⟨(⟨#[109, 97, 114, 107, 115]⟩ : ByteArray), ms⟩, ⟨(⟨#[99, 111, 110, 116, 101, 110, 116]⟩ : ByteArray), ct⟩]
set_option maxHeartbeats 8000000 in
set_option maxRecDepth 100000 in
theorem packing_calls (d : DealR) (ms ct : ByteArray) (hbn : d.bn ≤ 9223372036854775807) (hsz : d.n0.size ≤ 900000) (w : World) (hg : Glob w) (HK : ∀ w2, Below w.heap.size w w2 → Calls Tryd.prog 25 #[.slice d.bA d.bn d.bc] w2 fun e w' => ∃ v, e = .returned v ∧ Below w2.heap.size w2 w' ∧ Calls Tryd.prog 24 #[v, .string (⟨#[44]⟩ : ByteArray)] w' fun e w'' => e = .returned (.string ms) ∧ Below w'.heap.size w' w'')
    (HL : ∀ w2, Below w.heap.size w w2 → Calls Tryd.prog 26 #[.slice d.bA d.bn d.bc] w2 fun e w' => e = .returned (.string ct) ∧ Below w2.heap.size w2 w'):
    Calls Tryd.prog 11 #[.agg #[.string d.n0, .string d.n1, .string d.n2, .string d.n3, .string d.n4, .string d.n5, .string d.n6, .string d.n7, .string d.n8, .string d.cur, .int .i64 d.amt, .slice d.bA d.bn d.bc, .int .i64 d.t0, .int .i64 d.t1, .int .i64 d.t2, .int .i64 d.t3, .int .i64 d.t4]] w fun e w' => ∃ v, e = .returned (.agg #[.int .i64 1, .string ((⟨#[112, 107, 45]⟩ : ByteArray) ++ d.n0), .string d.n1, v]) ∧ Kd.R k42 42 w' w.heap.size (fun _ => True) v (packingF d ms ct) ∧ Below w.heap.size w w' := by
  have HM := Aside0.mk fun w2 (h : Below w.heap.size w w2) => many_calls (d.bn : Int) (by omega) w2 (hg.below h)
  replace HK := Aside0.mk HK
  replace HL := Aside0.mk HL
  have B0 : Aside0 (Below w.heap.size w ((w.alloc (.cells #[.string d.n0, .string d.n1, .string d.n2, .string d.n3, .string d.n4, .string d.n5, .string d.n6, .string d.n7, .string d.n8, .string d.cur, .int .i64 d.amt, .slice d.bA d.bn d.bc, .int .i64 d.t0, .int .i64 d.t1, .int .i64 d.t2, .int .i64 d.t3, .int .i64 d.t4] 36)).alloc (.cells #[.int .i64 0, .string ⟨#[]⟩, .string ⟨#[]⟩, .slice none 0 0] 24)).drew) := ⟨(((Below.refl _ w).alloc (Nat.le_refl _) _).alloc (by simp) _).drew⟩
  have K0 : Aside0 (((w.alloc (.cells #[.string d.n0, .string d.n1, .string d.n2, .string d.n3, .string d.n4, .string d.n5, .string d.n6, .string d.n7, .string d.n8, .string d.cur, .int .i64 d.amt, .slice d.bA d.bn d.bc, .int .i64 d.t0, .int .i64 d.t1, .int .i64 d.t2, .int .i64 d.t3, .int .i64 d.t4] 36)).alloc (.cells #[.int .i64 0, .string ⟨#[]⟩, .string ⟨#[]⟩, .slice none 0 0] 24)).drew.heap[w.heap.size]? = some (.cells #[.string d.n0, .string d.n1, .string d.n2, .string d.n3, .string d.n4, .string d.n5, .string d.n6, .string d.n7, .string d.n8, .string d.cur, .int .i64 d.amt, .slice d.bA d.bn d.bc, .int .i64 d.t0, .int .i64 d.t1, .int .i64 d.t2, .int .i64 d.t3, .int .i64 d.t4] 36 (0, 0))) := ⟨(Below.heap_alloc _ _ _ (by simp)).trans (heap_alloc_new w _)⟩
  have K1 : Aside0 (((w.alloc (.cells #[.string d.n0, .string d.n1, .string d.n2, .string d.n3, .string d.n4, .string d.n5, .string d.n6, .string d.n7, .string d.n8, .string d.cur, .int .i64 d.amt, .slice d.bA d.bn d.bc, .int .i64 d.t0, .int .i64 d.t1, .int .i64 d.t2, .int .i64 d.t3, .int .i64 d.t4] 36)).alloc (.cells #[.int .i64 0, .string ⟨#[]⟩, .string ⟨#[]⟩, .slice none 0 0] 24)).drew.heap[w.heap.size + 1]? = some (.cells #[.int .i64 0, .string ⟨#[]⟩, .string ⟨#[]⟩, .slice none 0 0] 24 (0, 0))) := ⟨by have := heap_alloc_new (w.alloc (.cells #[.string d.n0, .string d.n1, .string d.n2, .string d.n3, .string d.n4, .string d.n5, .string d.n6, .string d.n7, .string d.n8, .string d.cur, .int .i64 d.amt, .slice d.bA d.bn d.bc, .int .i64 d.t0, .int .i64 d.t1, .int .i64 d.t2, .int .i64 d.t3, .int .i64 d.t4] 36)) (.cells #[.int .i64 0, .string ⟨#[]⟩, .string ⟨#[]⟩, .slice none 0 0] 24); rwa [World.size_alloc] at this⟩
  have HD := Aside0.mk fun w2 b (hb : w2.heap[b]? = some (.cells (pairC (packingF d ms ct)).toArray 9 (0, 0))) => doc_calls 1 (⟨#[112, 107, 45]⟩ : ByteArray) d.n1 d b 12 (packingF d ms ct) 12 rfl (show 6 ≤ 1000 by decide) (show 12 ≤ 12 by decide) (by decide) (by have : (⟨#[112, 107, 45]⟩ : ByteArray).size = 3 := rfl; omega) w2 hb
  clear hg
  go_enter Tryd.func11, Tryd.ntmps11
  go_wp2_with fail
  refine start_ (n := 23) (S := fun w' => w'.heap[w.heap.size]? = some (.cells #[.string d.n0, .string d.n1, .string d.n2, .string d.n3, .string d.n4, .string d.n5, .string d.n6, .string d.n7, .string d.n8, .string d.cur, .int .i64 d.amt, .slice d.bA d.bn d.bc, .int .i64 d.t0, .int .i64 d.t1, .int .i64 d.t2, .int .i64 d.t3, .int .i64 d.t4] 36 (0, 0))) (ds := [22]) #[false, false, false, false, false, false, false, false, false, false, false, false, false, false, false, false, false, false, false, false, false, false, false] (by kernel_rfl) rfl rfl K0.out (fun hHeld => ?_)
  refine with_tabW packingW.tab1 packingW.bits1 (fun HT_ HW_ => ?_)
  generalize ((w.alloc (.cells #[.string d.n0, .string d.n1, .string d.n2, .string d.n3, .string d.n4, .string d.n5, .string d.n6, .string d.n7, .string d.n8, .string d.cur, .int .i64 d.amt, .slice d.bA d.bn d.bc, .int .i64 d.t0, .int .i64 d.t1, .int .i64 d.t2, .int .i64 d.t3, .int .i64 d.t4] 36)).alloc (.cells #[.int .i64 0, .string ⟨#[]⟩, .string ⟨#[]⟩, .slice none 0 0] 24)).drew = w6 at B0 K0 K1 hHeld ⊢
  refine take_ (i := 0) (N := some 3) (v := ?_) (a' := ?_) #[true, false, false, false, false, false, false, false, false, false, false, false, false, false, false, false, false, false, false, false, false, false, false] rfl rfl (take_ofW HT_.out HW_.out (by kernel_rfl)) (fun _ _ _ h => h) (Or.inl ⟨by rfl, ?_⟩) hHeld ?_ ?_
  rotate_left
  · rintro w' hq
    have q0 : w'.cell? ⟨w.heap.size, 0, none⟩ = some (.string d.n0) := (blk_cell hq 0).trans rfl
    have q1 : w'.cell? ⟨w.heap.size, 1, none⟩ = some (.string d.n1) := (blk_cell hq 1).trans rfl
    have q2 : w'.cell? ⟨w.heap.size, 2, none⟩ = some (.string d.n2) := (blk_cell hq 2).trans rfl
    have q3 : w'.cell? ⟨w.heap.size, 3, none⟩ = some (.string d.n3) := (blk_cell hq 3).trans rfl
    have q4 : w'.cell? ⟨w.heap.size, 4, none⟩ = some (.string d.n4) := (blk_cell hq 4).trans rfl
    have q5 : w'.cell? ⟨w.heap.size, 5, none⟩ = some (.string d.n5) := (blk_cell hq 5).trans rfl
    have q6 : w'.cell? ⟨w.heap.size, 6, none⟩ = some (.string d.n6) := (blk_cell hq 6).trans rfl
    have q7 : w'.cell? ⟨w.heap.size, 7, none⟩ = some (.string d.n7) := (blk_cell hq 7).trans rfl
    have q8 : w'.cell? ⟨w.heap.size, 8, none⟩ = some (.string d.n8) := (blk_cell hq 8).trans rfl
    have q9 : w'.cell? ⟨w.heap.size, 9, none⟩ = some (.string d.cur) := (blk_cell hq 9).trans rfl
    have q10 : w'.cell? ⟨w.heap.size, 10, none⟩ = some (.int .i64 d.amt) := (blk_cell hq 10).trans rfl
    have q11 : w'.cell? ⟨w.heap.size, 11, none⟩ = some (.slice d.bA d.bn d.bc) := (blk_cell hq 11).trans rfl
    have q12 : w'.cell? ⟨w.heap.size, 12, none⟩ = some (.int .i64 d.t0) := (blk_cell hq 12).trans rfl
    have q13 : w'.cell? ⟨w.heap.size, 13, none⟩ = some (.int .i64 d.t1) := (blk_cell hq 13).trans rfl
    have q14 : w'.cell? ⟨w.heap.size, 14, none⟩ = some (.int .i64 d.t2) := (blk_cell hq 14).trans rfl
    have q15 : w'.cell? ⟨w.heap.size, 15, none⟩ = some (.int .i64 d.t3) := (blk_cell hq 15).trans rfl
    have q16 : w'.cell? ⟨w.heap.size, 16, none⟩ = some (.int .i64 d.t4) := (blk_cell hq 16).trans rfl
    go_simp
    with_reducible rfl
  rotate_left
  · simp only [Act.put, List.setIfInBounds_toArray, List.set_cons_zero, List.set_cons_succ, i64_w, i32_w]
    rfl
  refine pure_ (i := 1) (N := some 4) (v := ?_) (a' := ?_) #[true, true, false, false, false, false, false, false, false, false, false, false, false, false, false, false, false, false, false, false, false, false, false] rfl rfl (any_of HT_.out (by kernel_rfl)) (fun _ _ _ h => h) (Or.inl ⟨by rfl, ?_⟩) ?_ ?_
  rotate_left
  · intro w'
    go_simp
    with_reducible rfl
  rotate_left
  · simp only [Act.put, List.setIfInBounds_toArray, List.set_cons_zero, List.set_cons_succ, i64_w, i32_w]
    rfl
  refine take_ (i := 2) (N := some 5) (v := ?_) (a' := ?_) #[true, true, true, false, false, false, false, false, false, false, false, false, false, false, false, false, false, false, false, false, false, false, false] rfl rfl (take_ofW HT_.out HW_.out (by kernel_rfl)) (fun _ _ _ h => h) (Or.inl ⟨by rfl, ?_⟩) hHeld ?_ ?_
  rotate_left
  · rintro w' hq
    have q1 : w'.cell? ⟨w.heap.size, 1, none⟩ = some (.string d.n1) := (blk_cell hq 1).trans rfl
    go_simp
    with_reducible rfl
  rotate_left
  · simp only [Act.put, List.setIfInBounds_toArray, List.set_cons_zero, List.set_cons_succ, i64_w, i32_w]
    rfl
  refine pure_ (i := 3) (N := some 6) (v := ?_) (a' := ?_) #[true, true, true, true, false, false, false, false, false, false, false, false, false, false, false, false, false, false, false, false, false, false, false] rfl rfl (any_of HT_.out (by kernel_rfl)) (fun _ _ _ h => h) (Or.inl ⟨by rfl, ?_⟩) ?_ ?_
  rotate_left
  · intro w'
    go_simp
    with_reducible rfl
  rotate_left
  · simp only [Act.put, List.setIfInBounds_toArray, List.set_cons_zero, List.set_cons_succ, i64_w, i32_w]
    rfl
  refine take_ (i := 4) (N := some 7) (v := ?_) (a' := ?_) #[true, true, true, true, true, false, false, false, false, false, false, false, false, false, false, false, false, false, false, false, false, false, false] rfl rfl (take_ofW HT_.out HW_.out (by kernel_rfl)) (fun _ _ _ h => h) (Or.inl ⟨by rfl, ?_⟩) hHeld ?_ ?_
  rotate_left
  · rintro w' hq
    have q1 : w'.cell? ⟨w.heap.size, 1, none⟩ = some (.string d.n1) := (blk_cell hq 1).trans rfl
    go_simp
    with_reducible rfl
  rotate_left
  · simp only [Act.put, List.setIfInBounds_toArray, List.set_cons_zero, List.set_cons_succ, i64_w, i32_w]
    rfl
  refine pure_ (i := 5) (N := some 8) (v := ?_) (a' := ?_) #[true, true, true, true, true, true, false, false, false, false, false, false, false, false, false, false, false, false, false, false, false, false, false] rfl rfl (any_of HT_.out (by kernel_rfl)) (fun _ _ _ h => h) (Or.inl ⟨by rfl, ?_⟩) ?_ ?_
  rotate_left
  · intro w'
    go_simp
    with_reducible rfl
  rotate_left
  · simp only [Act.put, List.setIfInBounds_toArray, List.set_cons_zero, List.set_cons_succ, i64_w, i32_w]
    rfl
  refine take_ (i := 6) (N := some 9) (v := ?_) (a' := ?_) #[true, true, true, true, true, true, true, false, false, false, false, false, false, false, false, false, false, false, false, false, false, false, false] rfl rfl (take_ofW HT_.out HW_.out (by kernel_rfl)) (fun _ _ _ h => h) (Or.inl ⟨by rfl, ?_⟩) hHeld ?_ ?_
  rotate_left
  · rintro w' hq
    have q7 : w'.cell? ⟨w.heap.size, 7, none⟩ = some (.string d.n7) := (blk_cell hq 7).trans rfl
    go_simp
    with_reducible rfl
  rotate_left
  · simp only [Act.put, List.setIfInBounds_toArray, List.set_cons_zero, List.set_cons_succ, i64_w, i32_w]
    rfl
  refine pure_ (i := 7) (N := some 10) (v := ?_) (a' := ?_) #[true, true, true, true, true, true, true, true, false, false, false, false, false, false, false, false, false, false, false, false, false, false, false] rfl rfl (any_of HT_.out (by kernel_rfl)) (fun _ _ _ h => h) (Or.inl ⟨by rfl, ?_⟩) ?_ ?_
  rotate_left
  · intro w'
    go_simp
    with_reducible rfl
  rotate_left
  · simp only [Act.put, List.setIfInBounds_toArray, List.set_cons_zero, List.set_cons_succ, i64_w, i32_w]
    rfl
  refine take_ (i := 8) (N := some 11) (v := ?_) (a' := ?_) #[true, true, true, true, true, true, true, true, true, false, false, false, false, false, false, false, false, false, false, false, false, false, false] rfl rfl (take_ofW HT_.out HW_.out (by kernel_rfl)) (fun _ _ _ h => h) (Or.inl ⟨by rfl, ?_⟩) hHeld ?_ ?_
  rotate_left
  · rintro w' hq
    have q8 : w'.cell? ⟨w.heap.size, 8, none⟩ = some (.string d.n8) := (blk_cell hq 8).trans rfl
    go_simp
    with_reducible rfl
  rotate_left
  · simp only [Act.put, List.setIfInBounds_toArray, List.set_cons_zero, List.set_cons_succ, i64_w, i32_w]
    rfl
  refine pure_ (i := 9) (N := some 12) (v := ?_) (a' := ?_) #[true, true, true, true, true, true, true, true, true, true, false, false, false, false, false, false, false, false, false, false, false, false, false] rfl rfl (any_of HT_.out (by kernel_rfl)) (fun _ _ _ h => h) (Or.inl ⟨by rfl, ?_⟩) ?_ ?_
  rotate_left
  · intro w'
    go_simp
    with_reducible rfl
  rotate_left
  · simp only [Act.put, List.setIfInBounds_toArray, List.set_cons_zero, List.set_cons_succ, i64_w, i32_w]
    rfl
  refine take_ (i := 10) (N := some 13) (v := ?_) (a' := ?_) #[true, true, true, true, true, true, true, true, true, true, true, false, false, false, false, false, false, false, false, false, false, false, false] rfl rfl (take_ofW HT_.out HW_.out (by kernel_rfl)) (fun _ _ _ h => h) (Or.inl ⟨by rfl, ?_⟩) hHeld ?_ ?_
  rotate_left
  · rintro w' hq
    have q11 : w'.cell? ⟨w.heap.size, 11, none⟩ = some (.slice d.bA d.bn d.bc) := (blk_cell hq 11).trans rfl
    go_simp
    with_reducible rfl
  rotate_left
  · simp only [Act.put, List.setIfInBounds_toArray, List.set_cons_zero, List.set_cons_succ, i64_w, i32_w]
    rfl
  refine pure_ (i := 11) (N := some 14) (v := ?_) (a' := ?_) #[true, true, true, true, true, true, true, true, true, true, true, true, false, false, false, false, false, false, false, false, false, false, false] rfl rfl (any_of HT_.out (by kernel_rfl)) (fun _ _ _ h => h) (Or.inl ⟨by rfl, ?_⟩) ?_ ?_
  rotate_left
  · intro w'
    go_simp
    with_reducible rfl
  rotate_left
  · simp only [Act.put, List.setIfInBounds_toArray, List.set_cons_zero, List.set_cons_succ, i64_w, i32_w]
    rfl
  refine pure_ (i := 13) (N := some 16) (v := ?_) (a' := ?_) #[true, true, true, true, true, true, true, true, true, true, true, true, false, true, false, false, false, false, false, false, false, false, false] rfl rfl (any_of HT_.out (by kernel_rfl)) (fun _ _ _ h => h) (Or.inl ⟨by rfl, ?_⟩) ?_ ?_
  rotate_left
  · intro w'
    go_simp
    with_reducible rfl
  rotate_left
  · simp only [Act.put, List.setIfInBounds_toArray, List.set_cons_zero, List.set_cons_succ, i64_w, i32_w]
    rfl
  refine take_ (i := 14) (N := some 17) (v := ?_) (a' := ?_) #[true, true, true, true, true, true, true, true, true, true, true, true, false, true, true, false, false, false, false, false, false, false, false] rfl rfl (take_ofW HT_.out HW_.out (by kernel_rfl)) (fun _ _ _ h => h) (Or.inl ⟨by rfl, ?_⟩) hHeld ?_ ?_
  rotate_left
  · rintro w' hq
    have q11 : w'.cell? ⟨w.heap.size, 11, none⟩ = some (.slice d.bA d.bn d.bc) := (blk_cell hq 11).trans rfl
    go_simp
    with_reducible rfl
  rotate_left
  · simp only [Act.put, List.setIfInBounds_toArray, List.set_cons_zero, List.set_cons_succ, i64_w, i32_w]
    rfl
  refine pure_ (i := 17) (N := some 20) (v := ?_) (a' := ?_) #[true, true, true, true, true, true, true, true, true, true, true, true, false, true, true, false, false, true, false, false, false, false, false] rfl rfl (any_of HT_.out (by kernel_rfl)) (fun _ _ _ h => h) (Or.inl ⟨by rfl, ?_⟩) ?_ ?_
  rotate_left
  · intro w'
    go_simp
    with_reducible rfl
  rotate_left
  · simp only [Act.put, List.setIfInBounds_toArray, List.set_cons_zero, List.set_cons_succ, i64_w, i32_w]
    rfl
  refine take_ (i := 18) (N := some 21) (v := ?_) (a' := ?_) #[true, true, true, true, true, true, true, true, true, true, true, true, false, true, true, false, false, true, true, false, false, false, false] rfl rfl (take_ofW HT_.out HW_.out (by kernel_rfl)) (fun _ _ _ h => h) (Or.inl ⟨by rfl, ?_⟩) hHeld ?_ ?_
  rotate_left
  · rintro w' hq
    have q11 : w'.cell? ⟨w.heap.size, 11, none⟩ = some (.slice d.bA d.bn d.bc) := (blk_cell hq 11).trans rfl
    go_simp
    with_reducible rfl
  rotate_left
  · simp only [Act.put, List.setIfInBounds_toArray, List.set_cons_zero, List.set_cons_succ, i64_w, i32_w]
    rfl
  refine one_ (i := 12) (N := some 15) #[true, true, true, true, true, true, true, true, true, true, true, true, true, true, true, false, false, true, true, false, false, false, false] rfl rfl (one_of HT_.out (by kernel_rfl)) (by decide) (fun K hK => ?_)
  refine goes_ Tryd.func16 (by kernel_rfl) rfl #[.int .i64 (d.bn : Int)] (by rfl) rfl rfl (by first | (go_simp; done) | (go_simp; rfl)) ?_
  refine (HM.out w6 B0.out).mono ?_
  rintro e w7 ⟨rfl, hB⟩
  refine ⟨_, rfl, ?_⟩
  replace K0 := Aside0.mk (blk_below' K0.out hB)
  replace K1 := Aside0.mk (blk_below' K1.out hB)
  replace B0 := Aside0.mk (B0.out.trans (hB.mono B0.out.size))
  clear hB
  refine hK.out _ _ K0.out (fun hHeld => ?_)
  clear hK K
  refine norm_ (a' := ?_) ?_ ?_
  rotate_left
  · show Act.put _ (some 15) _ = _
    simp only [Act.put, List.setIfInBounds_toArray, List.set_cons_zero, List.set_cons_succ, i64_w, i32_w]
    rfl
  refine one_ (i := 15) (N := some 18) #[true, true, true, true, true, true, true, true, true, true, true, true, true, true, true, true, false, true, true, false, false, false, false] rfl rfl (one_of HT_.out (by kernel_rfl)) (by decide) (fun K hK => ?_)
  refine goes_ Tryd.func25 (by kernel_rfl) rfl #[.slice d.bA d.bn d.bc] (by rfl) rfl rfl (by first | (go_simp; done) | (go_simp; rfl)) ?_
  refine (HK.out w7 B0.out).mono ?_
  rintro e w8 ⟨vm, rfl, hB, HJ⟩
  replace HJ := Aside0.mk HJ
  refine ⟨_, rfl, ?_⟩
  replace K0 := Aside0.mk (blk_below' K0.out hB)
  replace K1 := Aside0.mk (blk_below' K1.out hB)
  replace B0 := Aside0.mk (B0.out.trans (hB.mono B0.out.size))
  clear hB
  refine hK.out _ _ K0.out (fun hHeld => ?_)
  clear hK K
  refine norm_ (a' := ?_) ?_ ?_
  rotate_left
  · show Act.put _ (some 18) _ = _
    simp only [Act.put, List.setIfInBounds_toArray, List.set_cons_zero, List.set_cons_succ, i64_w, i32_w]
    rfl
  refine one_ (i := 16) (N := some 19) #[true, true, true, true, true, true, true, true, true, true, true, true, true, true, true, true, true, true, true, false, false, false, false] rfl rfl (one_of HT_.out (by kernel_rfl)) (by decide) (fun K hK => ?_)
  refine goes_ Tryd.func24 (by kernel_rfl) rfl #[vm, .string (⟨#[44]⟩ : ByteArray)] (by rfl) rfl rfl (by first | (go_simp; done) | (go_simp; rfl)) ?_
  refine HJ.out.mono ?_
  rintro e w9 ⟨rfl, hB⟩
  refine ⟨_, rfl, ?_⟩
  replace K0 := Aside0.mk (blk_below' K0.out hB)
  replace K1 := Aside0.mk (blk_below' K1.out hB)
  replace B0 := Aside0.mk (B0.out.trans (hB.mono B0.out.size))
  clear hB
  refine hK.out _ _ K0.out (fun hHeld => ?_)
  clear hK K
  refine norm_ (a' := ?_) ?_ ?_
  rotate_left
  · show Act.put _ (some 19) _ = _
    simp only [Act.put, List.setIfInBounds_toArray, List.set_cons_zero, List.set_cons_succ, i64_w, i32_w]
    rfl
  refine one_ (i := 19) (N := some 22) #[true, true, true, true, true, true, true, true, true, true, true, true, true, true, true, true, true, true, true, true, false, false, false] rfl rfl (one_of HT_.out (by kernel_rfl)) (by decide) (fun K hK => ?_)
  refine goes_ Tryd.func26 (by kernel_rfl) rfl #[.slice d.bA d.bn d.bc] (by rfl) rfl rfl (by first | (go_simp; done) | (go_simp; rfl)) ?_
  refine (HL.out w9 B0.out).mono ?_
  rintro e w10 ⟨rfl, hB⟩
  refine ⟨_, rfl, ?_⟩
  replace K0 := Aside0.mk (blk_below' K0.out hB)
  replace K1 := Aside0.mk (blk_below' K1.out hB)
  replace B0 := Aside0.mk (B0.out.trans (hB.mono B0.out.size))
  clear hB
  refine hK.out _ _ K0.out (fun hHeld => ?_)
  clear hK K
  refine norm_ (a' := ?_) ?_ ?_
  rotate_left
  · show Act.put _ (some 22) _ = _
    simp only [Act.put, List.setIfInBounds_toArray, List.set_cons_zero, List.set_cons_succ, i64_w, i32_w]
    rfl
  refine one_ (i := 20) (N := some 23) #[true, true, true, true, true, true, true, true, true, true, true, true, true, true, true, true, true, true, true, true, true, false, false] rfl rfl (one_of HT_.out (by kernel_rfl)) (by decide) (fun K hK => ?_)
  refine event_step (v := .slice (some ⟨w10.heap.size, 0, none⟩) 12 12) (w1 := w10.alloc (.cells (pairC (packingF d ms ct)).toArray 9)) (by rfl) (by first | (go_simp; done) | (go_simp; rfl)) ?_
  refine hK.out _ _ (blk_alloc K0.out _) (fun hHeld => ?_)
  clear hK K
  refine norm_ (a' := ?_) ?_ ?_
  rotate_left
  · show Act.put _ (some 23) _ = _
    simp only [Act.put, List.setIfInBounds_toArray, List.set_cons_zero, List.set_cons_succ, i64_w, i32_w]
    rfl
  refine one_ (i := 21) (N := some 24) #[true, true, true, true, true, true, true, true, true, true, true, true, true, true, true, true, true, true, true, true, true, true, false] rfl rfl (one_of HT_.out (by kernel_rfl)) (by decide) (fun K hK => ?_)
  refine goes_ Tryd.func14 (by kernel_rfl) rfl #[.int .i64 1, .string (⟨#[112, 107, 45]⟩ : ByteArray), .agg #[.string d.n0, .string d.n1, .string d.n2, .string d.n3, .string d.n4, .string d.n5, .string d.n6, .string d.n7, .string d.n8, .string d.cur, .int .i64 d.amt, .slice d.bA d.bn d.bc, .int .i64 d.t0, .int .i64 d.t1, .int .i64 d.t2, .int .i64 d.t3, .int .i64 d.t4], .string d.n1, .slice (some ⟨w10.heap.size, 0, none⟩) 12 12] (by rfl) rfl rfl (by first | (go_simp; done) | (go_simp; rfl)) ?_
  refine (HD.out _ w10.heap.size (heap_alloc_new w10 _)).mono ?_
  rintro e w12 ⟨u, rfl, hR, hB⟩
  obtain ⟨A1, c1_, rfl⟩ := Kd.R_slice hR
  refine ⟨_, rfl, ?_⟩
  replace K0 := Aside0.mk (blk_below' (blk_alloc K0.out _) hB)
  replace K1 := Aside0.mk (blk_below' (blk_alloc K1.out _) hB)
  have B1 := B0.out.alloc B0.out.size (.cells (pairC (packingF d ms ct)).toArray 9)
  replace hR := Aside0.mk (R42_le hR B1.size)
  replace B0 := Aside0.mk (B1.trans (hB.mono B1.size))
  clear hB HD B1
  refine hK.out _ _ K0.out (fun hHeld => ?_)
  clear hK K
  refine norm_ (a' := ?_) ?_ ?_
  rotate_left
  · show Act.put _ (some 24) _ = _
    simp only [Act.put, List.setIfInBounds_toArray, List.set_cons_zero, List.set_cons_succ, i64_w, i32_w]
    rfl
  obtain ⟨c0, c1, c2, c3, z0, z1, z2, z3⟩ := box4 K1.out
  refine last_ (i := 22) (N := none) #[true, true, true, true, true, true, true, true, true, true, true, true, true, true, true, true, true, true, true, true, true, true, true] rfl rfl (one_of HT_.out (by kernel_rfl)) (by decide) (fun K hK => ?_)
  rw [if_pos (by rfl)]
  unfold Oper.wp
  go_simp
  refine hK.out _ _ ?_
  clear hK K
  refine done_ (done_of HT_.out (by kernel_rfl)) ?_
  clear hHeld HT_ HW_ c0 c1 c2 c3 z0 z1 z2 z3
  obtain ⟨hgw, K2⟩ := put4 K1.out (.int .i64 1) (.string ((⟨#[112, 107, 45]⟩ : ByteArray) ++ d.n0)) (.string d.n1) (.slice A1 (packingF d ms ct).length c1_)
  have hR2 := Aside0.mk (R42_kept hR.out hgw (fun k e => by injection e with e; subst e; exact R42_ne4 K1.out (by decide) hR.out))
  have hB2 := Aside0.mk (B0.out.grown hgw B0.out.size (fun j e => by injection e with e; omega))
  obtain ⟨c0, c1, c2, c3, _, _, _, _⟩ := box4 K2
  clear hgw K2 hR K1 K0 B0
  go_wp2_with fail
  refine bodyPost_ret (v := .agg #[.int .i64 1, .string ((⟨#[112, 107, 45]⟩ : ByteArray) ++ d.n0), .string d.n1, .slice A1 (packingF d ms ct).length c1_]) ?_ rfl ⟨_, rfl, hR2.out, hB2.out⟩
  simp [results, Tryd.results11, go_sem, c0, c1, c2, c3]
end Go.Proofs.YtglgajammfcmcaaDoor.A

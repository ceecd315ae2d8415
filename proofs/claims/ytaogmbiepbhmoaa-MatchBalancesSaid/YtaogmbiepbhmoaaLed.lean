/- A ledger as memory holds it; its keys; what a call may turn. -/
import Derived.Test.YtaogmbiepbhmoaaNames
import Derived.Test.YtaogmbiepbhmoaaRow2
import Derived.DeepKeys4
namespace Go.Proofs.Ytaogmbiepbhmoaa.A
open Go.RowKit Go.Lib Go.Maps ScKit Go.Proofs.YtaogmbiepbhmoaaW.PrintWords

theorem law75 : Keyed Try.prog 75 := Keyed.of_law (deep_law_laid laidOut_ (m := 2) (by omega) (of_decide_eq_true (by kernel_rfl)) (by kernel_rfl) (by kernel_rfl))
theorem law9 : Keyed Try.prog 9 := string_keyed Try.underlying9
/-- A key: an account's name, a currency. -/
def kv (a c : ByteArray) : Value := .agg #[.string a, .string c]
noncomputable def litOf (a c : ByteArray) : Lit := (keyOf Try.prog 75 (kv a c)).getD (.bool false)
theorem keyY : keyOf Try.prog 75 (kv aY EUR) = some (litOf aY EUR) := by kernel_rfl
theorem keyV : keyOf Try.prog 75 (kv aV EUR) = some (litOf aV EUR) := by kernel_rfl
theorem keyN : keyOf Try.prog 75 (kv aN EUR) = some (litOf aN EUR) := by kernel_rfl
theorem keyS : keyOf Try.prog 75 (kv aS EUR) = some (litOf aS EUR) := by kernel_rfl
theorem keyO : keyOf Try.prog 75 (kv aO EUR) = some (litOf aO EUR) := by kernel_rfl
theorem keyVU : keyOf Try.prog 75 (kv aV USD) = some (litOf aV USD) := by kernel_rfl
theorem keyNU : keyOf Try.prog 75 (kv aN USD) = some (litOf aN USD) := by kernel_rfl
theorem kv_inj {a c a' c' : ByteArray} (h : kv a c = kv a' c') : a = a' ∧ c = c' := by
  unfold kv at h
  injection h with h
  have h2 := congrArg Array.toList h
  injection h2 with e1 e2
  injection e2 with e2 _
  injection e1 with e1
  injection e2 with e2
  exact ⟨e1, e2⟩
theorem lit_ne {a c a' c' : ByteArray} {k k' : Lit} (h : keyOf Try.prog 75 (kv a c) = some k) (h' : keyOf Try.prog 75 (kv a' c') = some k') (hne : a ≠ a' ∨ c ≠ c') : k ≠ k' := fun e => by
  subst e
  obtain ⟨e1, e2⟩ := kv_inj (law75.inj h h')
  rcases hne with hn | hn
  · exact hn e1
  · exact hn e2

/-- The world behind a call that may turn the blocks of S, and makes new ones. -/
structure Mod (w w' : World) (S : Nat → Prop) : Prop where
  os : w'.os = w.os
  tape : w'.tape = w.tape
  output : w'.output = w.output
  size : w.heap.size ≤ w'.heap.size
  block : ∀ k, k < w.heap.size → ¬ S k → w'.heap[k]? = w.heap[k]?
theorem Mod.refl (w : World) (S : Nat → Prop) : Mod w w S := ⟨rfl, rfl, rfl, Nat.le_refl _, fun _ _ _ => rfl⟩
theorem Mod.of_below {w w' : World} (h : Below w.heap.size w w') (S : Nat → Prop) : Mod w w' S := ⟨h.os, h.tape, h.output, h.size, fun k hk _ => h.block k hk⟩
theorem Mod.trans {w w1 w2 : World} {S S2 : Nat → Prop} (h : Mod w w1 S) (k : Mod w1 w2 S2) (hs : ∀ j, S2 j → S j ∨ w.heap.size ≤ j) : Mod w w2 S :=
  ⟨k.os.trans h.os, k.tape.trans h.tape, k.output.trans h.output, Nat.le_trans h.size k.size, fun j hj hn => by
    have h1 : ¬ S2 j := fun h2 => (hs j h2).elim hn (fun h3 => by omega)
    exact (k.block j (Nat.lt_of_lt_of_le hj h.size) h1).trans (h.block j hj hn)⟩
theorem Mod.below {w w1 w2 : World} {S : Nat → Prop} (h : Mod w w1 S) (k : Below w1.heap.size w1 w2) : Mod w w2 S := h.trans (Mod.of_below k (fun _ => False)) (fun _ h => h.elim)
theorem Mod.wider {w w1 : World} {S S' : Nat → Prop} (h : Mod w w1 S) (hs : ∀ k, S k → S' k) : Mod w w1 S' := ⟨h.os, h.tape, h.output, h.size, fun k hk hn => h.block k hk (fun h2 => hn (hs k h2))⟩
theorem Mod.alloc {w w1 : World} {S : Nat → Prop} (h : Mod w w1 S) (o : Obj) : Mod w (w1.alloc o) S := h.below (below_alloc (Below.refl _ _) o)
theorem Mod.drew {w w1 : World} {S : Nat → Prop} (h : Mod w w1 S) : Mod w w1.drew S := ⟨h.os, h.tape, h.output, h.size, h.block⟩
theorem Mod.drewN {w w1 : World} {S : Nat → Prop} (h : Mod w w1 S) (n : Nat) : Mod w (w1.drewN n) S := h.below (pw_below_drewN (Below.refl _ _) n)
theorem Mod.grown {w w1 w2 : World} {S : Nat → Prop} {row : Option Nat} (h : Mod w w1 S) (hg : w1.grownBy w2 row) (hr : ∀ k, row = some k → S k ∨ w.heap.size ≤ k) : Mod w w2 S :=
  h.trans (S2 := fun k => some k = row) ⟨(Below.grown (B := 0) (Below.refl _ _) hg (Nat.zero_le _) (fun _ _ => Nat.zero_le _)).os, (Below.grown (B := 0) (Below.refl _ _) hg (Nat.zero_le _) (fun _ _ => Nat.zero_le _)).tape, (Below.grown (B := 0) (Below.refl _ _) hg (Nat.zero_le _) (fun _ _ => Nat.zero_le _)).output, hg.size, fun k hk hn => hg.block k hk hn⟩ (fun j hj => hr j hj.symm)
theorem Mod.setCell {w w1 : World} {S : Nat → Prop} (h : Mod w w1 S) {a : Addr} (ha : S a.block ∨ w.heap.size ≤ a.block) (u : Value) : Mod w (w1.setCell a u) S :=
  h.trans (S2 := fun k => k = a.block) ⟨rfl, rfl, rfl, by simp [World.setCell], fun k _ hn => Below.heap_setCell w1 a u k hn⟩ (fun j hj => by rw [hj]; exact ha)
theorem Mod.toBelow {w0 w w1 : World} {S : Nat → Prop} {B : Nat} (hb : Below B w0 w) (h : Mod w w1 S) (hB : B ≤ w.heap.size) (hs : ∀ k, S k → B ≤ k) : Below B w0 w1 :=
  ⟨h.os.trans hb.os, h.tape.trans hb.tape, h.output.trans hb.output, Nat.le_trans hb.size h.size, fun k hk => (h.block k (by omega) (fun hS => by have := hs k hS; omega)).trans (hb.block k hk)⟩
theorem mapBlk {w w' : World} {P : Program} {k : TypeId} {b n : Nat} {f : Lit → Option Value} (h : MapIs w P k b n f) (hb : w'.heap[b]? = w.heap[b]?) : MapIs w' P k b n f := by
  obtain ⟨D, ⟨es, clock, h1, h2⟩, r⟩ := h
  exact ⟨D, ⟨es, clock, hb.trans h1, h2⟩, r⟩

/-- A ledger: its block p, its accounts' block m, its row of n posts. -/
structure Led (w : World) (B p m N : Nat) (v : Value) (n : Nat) (f : Lit → Option Value) : Prop where
  blk : ∃ o h, w.heap[p]? = some (.cells #[.string o, .map (some m), v, .map h] 73 (0, 0))
  acc : MapIs w Try.prog 75 m N f
  row : ∃ rows : List (List Value), rows.length = n ∧ (Kd.raw 3).R 37 w B (fun k => k ≠ p ∧ k ≠ m) v rows
  bp : B ≤ p
  bm : B ≤ m
  ne : p ≠ m
/-- The blocks that are a ledger's. -/
def Own (p m : Nat) (v : Value) (k : Nat) : Prop := k = p ∨ k = m ∨ some k = v.ownBlock
section
variable {w w' : World} {B p m N n : Nat} {v : Value} {f : Lit → Option Value} {S : Nat → Prop}
theorem Led.lt (h : Led w B p m N v n f) : ∀ k, Own p m v k → k < w.heap.size := by
  intro k hk
  rcases hk with rfl | rfl | hk
  · obtain ⟨o, h, hb⟩ := h.blk
    exact (Array.getElem?_eq_some_iff.1 hb).1
  · exact h.acc.lt
  · obtain ⟨rows, _, hR⟩ := h.row
    exact Kd.R_lt hR k hk.symm
theorem Led.base (h : Led w B p m N v n f) : ∀ k, Own p m v k → B ≤ k := by
  intro k hk
  rcases hk with rfl | rfl | hk
  · exact h.bp
  · exact h.bm
  · obtain ⟨rows, _, hR⟩ := h.row
    exact Kd.R_base hR k hk.symm
theorem Led.mod (h : Led w B p m N v n f) (hm : Mod w w' S) (hS : ∀ k, Own p m v k → ¬ S k) : Led w' B p m N v n f := by
  obtain ⟨o, hh, hb⟩ := h.blk
  obtain ⟨rows, hl, hR⟩ := h.row
  refine ⟨⟨o, hh, (hm.block p (h.lt p (.inl rfl)) (hS p (.inl rfl))).trans hb⟩, mapBlk h.acc (hm.block m (h.lt m (.inr (.inl rfl))) (hS m (.inr (.inl rfl)))), ⟨rows, hl, ?_⟩, h.bp, h.bm, h.ne⟩
  exact Kd.R_mono (Kd.R_step (Kd.R_tight2 rfl hR) (fun k hk hlt => hm.block k hlt (hS k (.inr (.inr hk.1))))) (fun k hk => hk.2)
theorem Led.below (h : Led w B p m N v n f) (hb : Below w.heap.size w w') : Led w' B p m N v n f := h.mod (Mod.of_below hb (fun _ => False)) (fun _ _ => id)
theorem Led.slice (h : Led w B p m N v n f) : ∃ A c, v = .slice A n c := by
  obtain ⟨rows, hl, hR⟩ := h.row
  obtain ⟨A, c, e, _⟩ := Kd.R_reads hR
  exact ⟨A, c, by rw [e, hl]⟩
end
theorem Led.cells {w : World} {B p m N n : Nat} {v : Value} {f : Lit → Option Value} (h : Led w B p m N v n f) : w.cell? ⟨p, 1, none⟩ = some (.map (some m)) ∧ w.cell? ⟨p, 2, none⟩ = some v ∧ w.frozen? ⟨p, 2, none⟩ = false := by
  obtain ⟨o, hh, hb⟩ := h.blk
  simp [World.cell?, World.frozen?, hb]
theorem box2 {w : World} {g t : Nat} {a b : Value} (h : w.heap[g]? = some (.cells #[a, b] t (0, 0))) : w.cell? ⟨g, 0, none⟩ = some a ∧ w.cell? ⟨g, 1, none⟩ = some b := by
  simp [World.cell?, h]
theorem Led.turned {w w' : World} {B p m N N' n : Nat} {v : Value} {f f' : Lit → Option Value} (h : Led w B p m N v n f) (hM : MapIs w' Try.prog 75 m N' f') (hg : w.grownBy w' (some m)) : Led w' B p m N' v n f' := by
  obtain ⟨o, hh, hb⟩ := h.blk
  obtain ⟨rows, hl, hR⟩ := h.row
  exact ⟨⟨o, hh, (hg.block p (h.lt p (.inl rfl)) (fun e => h.ne (by injection e))).trans hb⟩, hM, ⟨rows, hl, Kd.R_grown hR hg (fun k hk e => hk.2 (by injection e))⟩, h.bp, h.bm, h.ne⟩
theorem set3_1 {w : World} {g t : Nat} {a b c : Value} (h : w.heap[g]? = some (.cells #[a, b, c] t (0, 0))) (u : Value) : (w.setCell ⟨g, 1, none⟩ u).heap[g]? = some (.cells #[a, u, c] t (0, 0)) := by
  unfold World.setCell
  simp only
  rw [Array.getElem?_modify]
  simp [h]
theorem blk_set {w : World} {g : Nat} {o : Obj} (h : w.heap[g]? = some o) {a : Addr} (hn : g ≠ a.block) (u : Value) : (w.setCell a u).heap[g]? = some o := (Below.heap_setCell w a u g hn).trans h
theorem set3_all {w : World} {g t : Nat} {a b c : Value} (h : w.heap[g]? = some (.cells #[a, b, c] t (0, 0))) (x y z : Value) : (((w.setCell ⟨g, 0, none⟩ x).setCell ⟨g, 1, none⟩ y).setCell ⟨g, 2, none⟩ z).heap[g]? = some (.cells #[x, y, z] t (0, 0)) := by
  unfold World.setCell
  simp only
  rw [Array.getElem?_modify, if_pos rfl, Array.getElem?_modify, if_pos rfl, Array.getElem?_modify, if_pos rfl, h]
  rfl
theorem set4_2 {w : World} {g t : Nat} {a b c d : Value} (h : w.heap[g]? = some (.cells #[a, b, c, d] t (0, 0))) (u : Value) : (w.setCell ⟨g, 2, none⟩ u).heap[g]? = some (.cells #[a, b, u, d] t (0, 0)) := by
  unfold World.setCell
  simp only
  rw [Array.getElem?_modify, if_pos rfl, h]
  rfl
theorem Led.mono {w : World} {B p m N N' n : Nat} {v : Value} {f : Lit → Option Value} (h : Led w B p m N v n f) (hN : N ≤ N') : Led w B p m N' v n f := ⟨h.blk, h.acc.mono hN, h.row, h.bp, h.bm, h.ne⟩
/-- A post more: the row has grown, and the ledger points to it. -/
theorem Led.posted {w w1 : World} {B p m N n : Nat} {v v1 : Value} {f : Lit → Option Value} {rows : List (List Value)} (h : Led w B p m N v n f) (hR : (Kd.raw 3).R 37 w1 B (fun k => k ≠ p ∧ k ≠ m) v1 rows) (hl : rows.length = n + 1) (hg : w.grownBy w1 v.ownBlock) (hp : some p ≠ v.ownBlock) (hm : some m ≠ v.ownBlock) : Led (w1.setCell ⟨p, 2, none⟩ v1) B p m N v1 (n + 1) f := by
  obtain ⟨o, hh, hb⟩ := h.blk
  have hb1 := (hg.block p (h.lt p (.inl rfl)) hp).trans hb
  have hm1 := (hg.block m (h.lt m (.inr (.inl rfl))) hm)
  refine ⟨⟨o, hh, set4_2 hb1 v1⟩, mapBlk h.acc ((Below.heap_setCell w1 ⟨p, 2, none⟩ v1 m (Ne.symm h.ne)).trans hm1), ⟨rows, hl, ?_⟩, h.bp, h.bm, h.ne⟩
  exact Kd.R_step hR (fun k hk _ => Below.heap_setCell w1 ⟨p, 2, none⟩ v1 k hk.1)
theorem Mod.ents {w w' : World} {S : Nat → Prop} {X : Option Addr} {n : Nat} {l : List S54} (m : Mod w w' S) (h : Kd.C k54 w X n l) (hX : ∀ ad, X = some ad → ¬ S ad.block) : Kd.C k54 w' X n l :=
  Kd.C_foot_neS (fun h => h) h (fun ad e _ => hX ad e) w' ⟨m.size, m.block⟩
/-- An account. -/
def acct (fl bal : Int) : Value := .agg #[.int .i64 fl, .int .i64 bal, .int .i64 0]
theorem zero77 : ∀ w, (zeroValue 77).run Try.prog w = .ok (.agg #[.int .i64 0, .int .i64 0, .int .i64 0]) w := fun w => by kernel_rfl

set_option maxHeartbeats 4000000 in
set_option maxRecDepth 100000 in
theorem balance_some {w : World} {B p m N n : Nat} {v : Value} {f : Lit → Option Value} (hL : Led w B p m N v n f) (a c : ByteArray) (kl : Lit) (hk : keyOf Try.prog 75 (kv a c) = some kl) (fl bal : Int) (hv : f kl = some (acct fl bal)) :
    Calls Try.prog 37 #[.pointer (some ⟨p, 0, none⟩), .string a, .string c] w fun e w' => e = .returned (.tuple #[.int .i64 bal, .bool true]) ∧ Below w.heap.size w w' := by
  obtain ⟨hc1, _, _⟩ := hL.cells
  have hM := Aside0.mk hL.acc
  replace hk := Aside0.mk hk
  replace hv := Aside0.mk hv
  unfold kv at hk
  unfold acct at hv
  clear hL
  go_enter Try.func37, Try.ntmps37
  go_wp2_with (first
    | (at_lookup; refine wp_lookup_ok_some _ rfl _ _ 70 rfl 75 77 law75 Try.underlying70 zero77 m N f rfl hM.out _ _ rfl hk.out _ hv.out ?_)
    | fail)
  go_ret2
  exact ⟨rfl, (Below.refl _ _).alloc (Nat.le_refl _) _⟩
set_option maxHeartbeats 4000000 in
set_option maxRecDepth 100000 in
theorem balance_none {w : World} {B p m N n : Nat} {v : Value} {f : Lit → Option Value} (hL : Led w B p m N v n f) (a c : ByteArray) (kl : Lit) (hk : keyOf Try.prog 75 (kv a c) = some kl) (hv : f kl = none) :
    Calls Try.prog 37 #[.pointer (some ⟨p, 0, none⟩), .string a, .string c] w fun e w' => e = .returned (.tuple #[.int .i64 0, .bool false]) ∧ Below w.heap.size w w' := by
  obtain ⟨hc1, _, _⟩ := hL.cells
  have hM := Aside0.mk hL.acc
  replace hk := Aside0.mk hk
  replace hv := Aside0.mk hv
  unfold kv at hk
  clear hL
  go_enter Try.func37, Try.ntmps37
  go_wp2_with (first
    | (at_lookup; refine wp_lookup_ok_none _ rfl _ _ 70 rfl 75 77 law75 Try.underlying70 zero77 m N f rfl hM.out _ _ rfl hk.out hv.out ?_)
    | fail)
  go_ret2
  exact ⟨rfl, (Below.refl _ _).alloc (Nat.le_refl _) _⟩
end Go.Proofs.Ytaogmbiepbhmoaa.A

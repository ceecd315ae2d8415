/- Two ledgers and the mail between them, as MatchBalances keeps them. -/
import Derived.Test.YtaogmbiepbhmoaaPost
import Derived.Test.YtaogmbiepbhmoaaBalanced
namespace Go.Proofs.Ytaogmbiepbhmoaa.A
open Go.RowKit Go.Lib Go.Maps ScKit Go.Proofs.YtaogmbiepbhmoaaW.PrintWords Go.Proofs.YtaogmbiepbhmoaaW.PrintLast Go.Proofs.YtaogmbiepbhmoaaW.PrintMore
set_option linter.unusedVariables false

/-- A payer's account that may go far below nothing, and a payee's. -/
noncomputable def fA (k1 k2 : Lit) (S : Int) : Lit → Option Value := upd (upd (fun _ => none) k1 (acct (-1099511627776) (-S))) k2 (acct 0 S)
theorem fA_new {k1 k2 : Lit} (S x : Int) : newF (fA k1 k2 S) k1 k2 (-1099511627776) (-S) 0 S x = fA k1 k2 (S + x) := by
  funext z
  unfold newF fA
  by_cases e2 : z = k2
  · subst e2; rw [upd_same, upd_same]
  · rw [upd_ne _ _ e2, upd_ne _ _ e2]
    by_cases e1 : z = k1
    · subst e1; rw [upd_same, upd_same, show -S - x = -(S + x) by omega]
    · rw [upd_ne _ _ e1, upd_ne _ _ e2, upd_ne _ _ e1, upd_ne _ _ e1]
theorem fA_pay {n1 n2 : ByteArray} {k1 k2 : Lit} (h1 : keyOf Try.prog 75 (kv n1 EUR) = some k1) (h2 : keyOf Try.prog 75 (kv n2 EUR) = some k2) (hne : k1 ≠ k2) {S x : Int} (hS : 0 ≤ S) (hx : 1 ≤ x) (hm : S + x ≤ 1099511627776) : Pay (fA k1 k2 S) n1 n2 k1 k2 (-1099511627776) (-S) 0 S x :=
  ⟨h1, h2, hne, by unfold fA; rw [upd_ne _ _ hne, upd_same], by unfold fA; rw [upd_same], hx, by omega, by omega, by omega⟩
theorem fA_two (k1 k2 : Lit) (S : Int) : fA k1 k2 S k2 = some (acct 0 S) := by unfold fA; rw [upd_same]
theorem fA_one {k1 k2 : Lit} (hne : k1 ≠ k2) (S : Int) : fA k1 k2 S k1 = some (acct (-1099511627776) (-S)) := by unfold fA; rw [upd_ne _ _ hne, upd_same]
theorem fA_none {k1 k2 z : Lit} (h1 : z ≠ k1) (h2 : z ≠ k2) (S : Int) : fA k1 k2 S z = none := by unfold fA; rw [upd_ne _ _ h2, upd_ne _ _ h1]
theorem C_ents (w : World) (n1 n2 : ByteArray) (x : Int) : Kd.C k54 (w.alloc (.cells #[.string n1, .string EUR, .int .i64 (-x), .string n2, .string EUR, .int .i64 x] 54)) (some ⟨w.heap.size, 0, none⟩) 2 (ents n1 n2 x) := by
  have h : k54.R 54 (w.alloc (.cells #[.string n1, .string EUR, .int .i64 (-x), .string n2, .string EUR, .int .i64 x] 54)) w.heap.size (fun _ => True) (.slice (some ⟨w.heap.size, 0, none⟩) 2 2) (ents n1 n2 x) := by
    refine ⟨fun _ _ => trivial, [.string n1, .string EUR, .int .i64 (-x), .string n2, .string EUR, .int .i64 x], World.ownsRow_lit (size := 3) w #[.string n1, .string EUR, .int .i64 (-x), .string n2, .string EUR, .int .i64 x] 2 (Nat.le_refl _) (by decide) rfl, rfl, fun j p hj => ?_⟩
    match j with
    | 0 => simp [ents] at hj; subst hj; exact k54_mkM _ _ _ ⟨n1, EUR, -x⟩
    | 1 => simp [ents] at hj; subst hj; exact k54_mkM _ _ _ ⟨n2, EUR, x⟩
    | j + 2 => simp [ents] at hj
  exact (Kd.R_reads' h).2.2

theorem Led.lower {w : World} {B B' p m N n : Nat} {v : Value} {f : Lit → Option Value} (h : Led w B p m N v n f) (hB : B' ≤ B) : Led w B' p m N v n f := by
  obtain ⟨rows, hl, hR⟩ := h.row
  exact ⟨h.blk, h.acc, ⟨rows, hl, Kd.R_lower hR hB⟩, Nat.le_trans hB h.bp, Nat.le_trans hB h.bm, h.ne⟩
theorem info48 : (Try.prog.info? 48).map (fun i => (i.zero, i.size, i.bytes)) = some (some (.agg #[.string ⟨#[]⟩, .string ⟨#[]⟩, .int .i64 0, .int .i64 0, .int .i64 0, .string ⟨#[]⟩, .string ⟨#[]⟩, .string ⟨#[]⟩, .int .i64 0, .int .i64 0, .string ⟨#[]⟩, .int .i64 0, .slice none 0 0, .slice none 0 0]), 14, 192) := by kernel_rfl
theorem lett_raw (w : World) (base : Nat) (ok : Nat → Prop) (q : Int × Int) : (Kd.raw 14).M w base ok (lett q) (lett q) := ⟨rfl, rfl, by simp [lett, Value.oneCell']⟩
theorem R_lett (w : World) (q : Int × Int) : (Kd.raw 14).R 48 (w.alloc (.cells (lett q).toArray 48)) w.heap.size (fun k => w.heap.size ≤ k) (.slice (some ⟨w.heap.size, 0, none⟩) 1 1) [lett q] := by
  refine ⟨fun k hk => ?_, lett q, World.ownsRow_lit (size := 14) w (lett q).toArray 1 (Nat.le_refl _) (by decide) rfl, rfl, fun j p hj => ?_⟩
  · have : w.heap.size = k := by simpa [Value.ownBlock] using hk
    omega
  · match j with
    | 0 => simp at hj; subst hj; exact lett_raw _ _ _ q
    | j + 1 => simp at hj
theorem mail_take {w : World} {A : Option Addr} {ms : List (Int × Int)} (h : Kd.C (Kd.raw 14) w A ms.length (ms.map lett)) (j : Nat) (hj : j ≤ ms.length) : Kd.C (Kd.raw 14) w A j ((ms.take j).map lett) := by
  have hlm : ms.length = (ms.map lett).length := (List.length_map ..).symm
  have h1 : Kd.C (Kd.raw 14) w A (ms.map lett).length (ms.map lett) := hlm ▸ h
  have h2 := Kd.C_take h1 (m := j) (by omega)
  have e : ((ms.map lett).take j).length = j := by rw [List.length_take]; omega
  rw [e, ← List.map_take] at h2
  exact h2
theorem mail_drop {w : World} {A : Option Addr} {ms : List (Int × Int)} (h : Kd.C (Kd.raw 14) w A ms.length (ms.map lett)) (c m : Nat) (hm : m ≤ ms.length) (hc : ms.length ≤ c) : Kd.C (Kd.raw 14) w (if c = m then A else A.map (·.add (m * 14))) (ms.length - m) ((ms.drop m).map lett) := by
  have hlm : ms.length = (ms.map lett).length := (List.length_map ..).symm
  have h1 : Kd.C (Kd.raw 14) w A (ms.map lett).length (ms.map lett) := hlm ▸ h
  have h2 := Kd.C_drop h1 (m := m) (c := c) (by omega) (by omega)
  rw [show (Kd.raw 14).sz = 14 from rfl, List.length_drop, ← hlm, ← List.map_drop] at h2
  exact h2
theorem wrap_small (j : Nat) (h : j ≤ 1000000) : wrap64 ((j : Int) + 1) = (j : Int) + 1 := by unfold wrap64; omega
theorem own_later {p m n q : Nat} {v v' : Value} (hv : v'.ownBlock = v.ownBlock ∨ ∃ b, v'.ownBlock = some b ∧ n ≤ b) (hq : q < n) (h : Own p m v' q) : Own p m v q := by
  rcases h with h | h | h
  · exact .inl h
  · exact .inr (.inl h)
  · rcases hv with e | ⟨b, e, hb⟩
    · rw [e] at h; exact .inr (.inr h)
    · rw [e] at h; injection h with h; omega
/-- The blocks that are not the one's, nor the other's. -/
def Off (p m : Nat) (v : Value) (p2 m2 : Nat) (v2 : Value) (q : Nat) : Prop := ¬ Own p m v q ∧ ¬ Own p2 m2 v2 q
/-- Two ledgers and a row of letters, apart. -/
structure Three (wr : World) (B pa ma Na : Nat) (va : Value) (ka : Nat) (fa : Lit → Option Value) (pb mb Nb : Nat) (vb : Value) (kb : Nat) (fb : Lit → Option Value) (vm : Value) (ms : List (Int × Int)) : Prop where
  la : Led wr B pa ma Na va ka fa
  lb : Led wr B pb mb Nb vb kb fb
  ml : (Kd.raw 14).R 48 wr B (Off pa ma va pb mb vb) vm (ms.map lett)
  ap : ∀ q, Own pa ma va q → ¬ Own pb mb vb q
section
variable {wr w' : World} {B pa ma Na ka pb mb Nb kb : Nat} {va vb vm : Value} {fa fb : Lit → Option Value} {ms : List (Int × Int)} (h : Three wr B pa ma Na va ka fa pb mb Nb vb kb fb vm ms)
include h
theorem Three.below (hb : Below wr.heap.size wr w') : Three w' B pa ma Na va ka fa pb mb Nb vb kb fb vm ms := ⟨h.la.below hb, h.lb.below hb, Kd.R_below h.ml hb, h.ap⟩
theorem Three.swap : Three wr B pb mb Nb vb kb fb pa ma Na va ka fa vm ms := ⟨h.lb, h.la, Kd.R_mono h.ml (fun _ hq => ⟨hq.2, hq.1⟩), fun q h1 h2 => h.ap q h2 h1⟩
/-- The first ledger has turned. -/
theorem Three.first {N' k' : Nat} {v' : Value} {f' : Lit → Option Value} (hl : Led w' B pa ma N' v' k' f') (hm : Mod wr w' (Own pa ma va)) (hv : v'.ownBlock = va.ownBlock ∨ ∃ b, v'.ownBlock = some b ∧ wr.heap.size ≤ b) : Three w' B pa ma N' v' k' f' pb mb Nb vb kb fb vm ms := by
  refine ⟨hl, h.lb.mod hm (fun q hq h2 => h.ap q h2 hq), ?_, fun q h1 h2 => ?_⟩
  · have h0 := Kd.R_lt h.ml
    refine Kd.R_mono (Kd.R_step (Kd.R_tight2 rfl h.ml) (fun q hq hlt => hm.block q hlt hq.2.1)) (fun q hq => ⟨fun h3 => ?_, hq.2.2⟩)
    exact hq.2.1 (own_later hv (h0 q hq.1.symm) h3)
  · exact h.ap q (own_later hv (h.lb.lt q h2) h1) h2
/-- A letter more. -/
theorem Three.mail {v1 : Value} {q : Int × Int} (hR : (Kd.raw 14).R 48 w' B (Off pa ma va pb mb vb) v1 ((ms ++ [q]).map lett)) (hg : wr.grownBy w' vm.ownBlock) : Three w' B pa ma Na va ka fa pb mb Nb vb kb fb v1 (ms ++ [q]) := by
  have hm : Mod wr w' (fun k => some k = vm.ownBlock) := (Mod.refl _ _).grown hg (fun k hk => .inl hk.symm)
  exact ⟨h.la.mod hm (fun k h1 h2 => (h.ml.1 k h2.symm).1 h1), h.lb.mod hm (fun k h1 h2 => (h.ml.1 k h2.symm).2 h1), hR, h.ap⟩
end
/-- The sums that go with them. -/
structure Sums (k Na Nb kb : Nat) (S T : Int) (ms : List (Int × Int)) : Prop where
  na : Na ≤ 2 + 2 * k
  nb : Nb ≤ 2 + 2 * k
  kb : kb ≤ k
  s0 : 0 ≤ S
  s1 : S ≤ k * 4294967296
  t0 : 0 ≤ T
  t1 : T ≤ k * 4294967296
  eq : S - T = sumL ms
  sh : ∃ t, ms = (13, 5) :: t ∧ (∀ q ∈ t, q.1 = 27 ∧ 1 ≤ q.2 ∧ q.2 ≤ 4294967296) ∧ t.length ≤ k
theorem Sums.start : Sums 0 2 2 0 0 0 [(13, 5)] := ⟨by omega, by omega, by omega, by omega, by omega, by omega, by omega, by simp [sumL], [], rfl, (fun _ h => by cases h), Nat.le_refl _⟩
theorem Sums.book {k Na Nb kb : Nat} {S T x : Int} {ms : List (Int × Int)} (h : Sums k Na Nb kb S T ms) (h0 : 1 ≤ x) (h1 : x ≤ 4294967296) : Sums (k + 1) (Na + 2) (Nb + 2) (kb + 1) (S + x) (T + x) ms := by
  have a1 := h.na; have a2 := h.nb; have a3 := h.kb; have a4 := h.s0; have a5 := h.s1; have a6 := h.t0; have a7 := h.t1; have a8 := h.eq
  obtain ⟨t, e, ht, hl⟩ := h.sh
  exact ⟨by omega, by omega, by omega, by omega, by omega, by omega, by omega, by omega, t, e, ht, by omega⟩
theorem Sums.send {k Na Nb kb : Nat} {S T x : Int} {ms : List (Int × Int)} (h : Sums k Na Nb kb S T ms) (h0 : 1 ≤ x) (h1 : x ≤ 4294967296) : Sums (k + 1) (Na + 2) Nb kb (S + x) T (ms ++ [(27, x)]) := by
  have a1 := h.na; have a2 := h.nb; have a3 := h.kb; have a4 := h.s0; have a5 := h.s1; have a6 := h.t0; have a7 := h.t1; have a8 := h.eq
  obtain ⟨t, e, ht, hl⟩ := h.sh
  refine ⟨by omega, by omega, by omega, by omega, by omega, by omega, by omega, by rw [sumL_append, ← a8]; simp [sumL]; omega, t ++ [(27, x)], by rw [e]; rfl, fun q hq => ?_, by simp; omega⟩
  rcases List.mem_append.1 hq with hq | hq
  · exact ht q hq
  · rw [List.mem_singleton.1 hq]; exact ⟨rfl, h0, h1⟩
theorem Sums.small {k Na Nb kb : Nat} {S T : Int} {ms : List (Int × Int)} (h : Sums k Na Nb kb S T ms) : ∀ q ∈ ms, 0 ≤ q.2 ∧ q.2 ≤ 8589934592 := by
  obtain ⟨t, rfl, ht, _⟩ := h.sh
  intro q hq
  rcases List.mem_cons.1 hq with rfl | hq
  · exact ⟨by decide, by decide⟩
  · obtain ⟨_, h1, h2⟩ := ht q hq
    exact ⟨by omega, by omega⟩
theorem Sums.len {k Na Nb kb : Nat} {S T : Int} {ms : List (Int × Int)} (h : Sums k Na Nb kb S T ms) : 1 ≤ ms.length ∧ ms.length ≤ k + 1 := by
  obtain ⟨t, rfl, _, hl⟩ := h.sh
  simp; omega
/-- Without the letter at a place the sums stand if it is the first, and only then. -/
theorem Sums.less {k Na Nb kb : Nat} {S T : Int} {ms : List (Int × Int)} (h : Sums k Na Nb kb S T ms) (j : Nat) (hj : j < ms.length) : decide (S + -T = sumL (ms.take j ++ ms.drop (j + 1))) = decide (j = 0) := by
  have a8 := h.eq
  obtain ⟨t, rfl, ht, _⟩ := h.sh
  have e0 : ((13, 5) :: t).take j ++ ([((13, 5) :: t)[j]] ++ ((13, 5) :: t).drop (j + 1)) = (13, 5) :: t := by
    rw [List.singleton_append, ← List.drop_eq_getElem_cons hj, List.take_append_drop]
  have e1 : sumL ((13, 5) :: t) = sumL (((13, 5) :: t).take j) + (sumL [((13, 5) :: t)[j]] + sumL (((13, 5) :: t).drop (j + 1))) := by
    conv => lhs; rw [← e0]
    rw [sumL_append, sumL_append]
  rw [sumL_append, decide_eq_decide]
  match j, hj with
  | 0, _ => simp [sumL] at e1 ⊢; simp [sumL] at a8; omega
  | j + 1, hj =>
    have hj2 : j < t.length := by simpa using hj
    obtain ⟨q1, q2, q3⟩ := ht t[j] (List.getElem_mem hj2)
    have e2 : sumL [((13, 5) :: t)[j + 1]] = t[j].2 := by simp [sumL, q1]
    rw [e2] at e1
    constructor
    · intro h; omega
    · intro h; omega
end Go.Proofs.Ytaogmbiepbhmoaa.A

/- Small words and lemmas of this session's own, over any program: maps as functions of their keys. -/
import Derived.WalkKit
import Derived.Maps.RangeWalk
import Derived.Maps.Ext
import Derived.Deep.Draws
namespace ScKit
open Go Go.RowKit Go.Maps

/-- A cell of an elder world reads as it did. -/
theorem cellB {w wr : World} (hb : Below w.heap.size w wr) {a : Addr} {v : Value} (h : w.cell? a = some v) : wr.cell? a = some v :=
  (hb.cell (World.block_lt_of_cell? w _ h)).trans h

theorem bcell {W w1 : World} (hb : Below W.heap.size W w1) : (∀ b o, b < W.heap.size → w1.cell? ⟨b, o, none⟩ = W.cell? ⟨b, o, none⟩) ∧ (∀ b o, b < W.heap.size → w1.frozen? ⟨b, o, none⟩ = W.frozen? ⟨b, o, none⟩) :=
  ⟨fun b o h => hb.cell (p := ⟨b, o, none⟩) h, fun b o h => hb.frozen (p := ⟨b, o, none⟩) h⟩

theorem box3 {w : World} {g t : Nat} {a b c : Value} (h : w.heap[g]? = some (.cells #[a, b, c] t (0, 0))) :
    w.cell? ⟨g, 0, none⟩ = some a ∧ w.cell? ⟨g, 1, none⟩ = some b ∧ w.cell? ⟨g, 2, none⟩ = some c ∧ (w.frozen? ⟨g, 0, none⟩ = false ∧ w.frozen? ⟨g, 1, none⟩ = false ∧ w.frozen? ⟨g, 2, none⟩ = false) := by
  simp [World.cell?, World.frozen?, h]

/-- Every element reads as itself. -/
def heldR (v : Value) : Option (DataW Value × List MemPlace) := some (.held v, [])
theorem heldR_mk (v : Value) : heldR v = some (.held v, []) := rfl

/-- What a datum holds at a key. -/
def getM (D : DataW Value) (kl : Lit) : Option Value :=
  if Maps.has D kl then (match D.atKey kl .nil with | .held v => some v | _ => none) else none

theorem getM_empty (kl : Lit) : getM (.map []) kl = none := rfl
theorem getM_put_same {D : DataW Value} (hD : IsMap D) {kl : Lit} (hk : WideAt.IsKeyLit kl) (v : Value) : getM (D.put kl (.held v)) kl = some v := by
  unfold getM
  rw [if_pos (has_put_same hD hk _), atKey_put_same hD hk]
theorem getM_put_other {D : DataW Value} {kl kl' : Lit} (hne : kl' ≠ kl) (d : DataW Value) : getM (D.put kl d) kl' = getM D kl' := by
  unfold getM
  rw [has_put_other hne, atKey_put_other hne]
theorem getM_none {D : DataW Value} {kl : Lit} (h : Maps.has D kl = false) : getM D kl = none := by
  unfold getM; rw [h]; rfl

theorem atKey_all {D : DataW Value} {kl : Lit} (hi : IsMap D) (hh : Maps.has D kl = true) (z1 z2 : DataW Value) : D.atKey kl z1 = D.atKey kl z2 := by
  obtain ⟨es, rfl⟩ := hi
  unfold DataW.atKey
  rw [has_eq, List.any_eq_true] at hh
  obtain ⟨p, hp, hs⟩ := hh
  cases hf : es.find? (fun p => p.1.sameKey kl) with
  | some p => simp only [hf]
  | none => exact absurd hs (by simpa using List.find?_eq_none.1 hf p hp)

/-- Block b of w is a map of at most n entries that holds at each key what f says. -/
def MapIs (w : World) (P : Program) (k : TypeId) (b n : Nat) (f : Lit → Option Value) : Prop :=
  ∃ D : DataW Value, w.ownsMap P k heldR b n D ∧ (∀ kl, getM D kl = f kl) ∧ (∀ kl, Maps.has D kl = (f kl).isSome)

section
variable {P : Program} {k : TypeId} {b n : Nat} {f : Lit → Option Value} {w w' : World}

theorem MapIs.made (w : World) (P : Program) (k : TypeId) : MapIs (w.alloc (.map #[] 0)) P k w.heap.size 0 (fun _ => none) :=
  ⟨.map [], World.ownsMap_made _ _ _ _, fun _ => rfl, fun _ => rfl⟩
theorem MapIs.lt (h : MapIs w P k b n f) : b < w.heap.size := by obtain ⟨D, h, _⟩ := h; exact h.lt
theorem MapIs.mono (h : MapIs w P k b n f) {n' : Nat} (hn : n ≤ n') : MapIs w P k b n' f := by
  obtain ⟨D, h, r⟩ := h; exact ⟨D, h.mono hn, r⟩
theorem MapIs.congr (h : MapIs w P k b n f) {f' : Lit → Option Value} (e : ∀ kl, f kl = f' kl) : MapIs w P k b n f' := by
  have : f = f' := funext e
  subst this; exact h
theorem MapIs.kept {row : Option Nat} (h : MapIs w P k b n f) (hg : w.grownBy w' row) (hne : some b ≠ row) : MapIs w' P k b n f := by
  obtain ⟨D, h, r⟩ := h; exact ⟨D, h.kept hg hne, r⟩
theorem MapIs.alloc (h : MapIs w P k b n f) (o : Obj) : MapIs (w.alloc o) P k b n f := h.kept (World.grownBy_alloc w o none) (by simp)
theorem MapIs.below (h : MapIs w P k b n f) {B : Nat} (hb : Below B w w') (hB : b < B) : MapIs w' P k b n f := by
  obtain ⟨D, ⟨es, clock, h1, h2⟩, r⟩ := h
  exact ⟨D, ⟨es, clock, (hb.block b hB).trans h1, h2⟩, r⟩
theorem MapIs.setCell (h : MapIs w P k b n f) {a : Addr} (ha : b ≠ a.block) (u : Value) : MapIs (w.setCell a u) P k b n f := by
  obtain ⟨D, h, r⟩ := h; exact ⟨D, h.setCell ha u, r⟩
theorem MapIs.drew (h : MapIs w P k b n f) : MapIs w.drew P k b n f := h
theorem MapIs.drewN (h : MapIs w P k b n f) (m : Nat) : MapIs (w.drewN m) P k b n f := by
  obtain ⟨D, ⟨es, clock, h1, h2⟩, r⟩ := h
  exact ⟨D, ⟨es, clock, h1, h2⟩, r⟩

open Classical in
/-- f with one key laid anew. -/
noncomputable def upd (f : Lit → Option Value) (kl : Lit) (v : Value) : Lit → Option Value := fun x => if x = kl then some v else f x

theorem MapIs.put_of {D : DataW Value} (hi : IsMap D) (h1 : ∀ kl, getM D kl = f kl) (h2 : ∀ kl, Maps.has D kl = (f kl).isSome) {kl : Lit} (hk : WideAt.IsKeyLit kl) (v : Value) :
    (∀ x, getM (D.put kl (.held v)) x = upd f kl v x) ∧ ∀ x, Maps.has (D.put kl (.held v)) x = (upd f kl v x).isSome := by
  refine ⟨fun x => ?_, fun x => ?_⟩
  · unfold upd
    by_cases e : x = kl
    · subst e; rw [if_pos rfl, getM_put_same hi hk]
    · rw [if_neg e, getM_put_other e, h1]
  · unfold upd
    by_cases e : x = kl
    · subst e; rw [if_pos rfl, has_put_same hi hk]; rfl
    · rw [if_neg e, has_put_other e, h2]
end

section
variable {P : Program} (w : World) {ops : Array Oper} {rest : List Oper} {o : Oper} {a : Act} {Q : Exit → Act → World → Prop}

theorem wp_update (hg : o.guard = none) (m x v : Operand) (t : TypeId) (hop : o.op = Op.mapUpdate t m x v)
    (k e : TypeId) (K : Keyed P k) (ht : P.underlying t = some (.map k e)) (b n : Nat) (f : Lit → Option Value)
    (hm : a.eval m = .map (some b)) (hown : MapIs w P k b n f) (hn : n < maxLen) (key val : Value) (kl : Lit) (hx : a.eval x = key) (hv : a.eval v = val) (hkey : keyOf P k key = some kl)
    (hK : ∀ w', MapIs w' P k b (n + 1) (upd f kl val) → w.grownBy w' (some b) → wpList P ops Q rest (a.put o.dst undef) w') :
    wpList P ops Q (o :: rest) a w := by
  obtain ⟨D, hD, h1, h2⟩ := hown
  refine wpList_mapUpdate_own w hg m x v t hop k e K ht heldR b n D hm hD hn key val kl hx hv hkey (.held val) [] rfl (fun w' hw' hg' => ?_)
  obtain ⟨p1, p2⟩ := MapIs.put_of hD.isMap h1 h2 (K.key hkey) val
  exact hK w' ⟨_, hw', p1, p2⟩ hg'

/-- 'v, ok := m[k]', the key there. -/
theorem wp_lookup_ok_some (hg : o.guard = none) (m x : Operand) (t : TypeId) (hop : o.op = Op.lookup t m x true)
    (k e : TypeId) (K : Keyed P k) (ht : P.underlying t = some (.map k e)) {z : Value} (hz : ∀ w, (zeroValue e).run P w = .ok z w) (b n : Nat) (f : Lit → Option Value)
    (hm : a.eval m = .map (some b)) (hown : MapIs w P k b n f) (key : Value) (kl : Lit) (hx : a.eval x = key) (hkey : keyOf P k key = some kl) (v : Value) (hv : f kl = some v)
    (hK : wpList P ops Q rest (a.put o.dst (.tuple #[v, .bool true])) w) :
    wpList P ops Q (o :: rest) a w := by
  obtain ⟨D, hD, h1, h2⟩ := hown
  refine wpList_lookup_own_ok w hg m x t hop k e K ht heldR (hz w) (.held z) [] rfl b n D hm hD key kl hx hkey (fun v' ps hv' => ?_)
  have hh : Maps.has D kl = true := by rw [h2, hv]; rfl
  have h3 := h1 kl
  unfold getM at h3
  rw [if_pos hh, hv] at h3
  have h4 := atKey_all hD.isMap hh
  rw [h4 _ .nil] at hv'
  rw [heldR_mk] at hv'
  have hv1 := (Prod.mk.inj (Option.some.inj hv')).1
  rw [← hv1] at h3
  have h6 : v' = v := by injection h3
  rw [h6, hh]
  exact hK

/-- 'v, ok := m[k]', no such key. -/
theorem wp_lookup_ok_none (hg : o.guard = none) (m x : Operand) (t : TypeId) (hop : o.op = Op.lookup t m x true)
    (k e : TypeId) (K : Keyed P k) (ht : P.underlying t = some (.map k e)) {z : Value} (hz : ∀ w, (zeroValue e).run P w = .ok z w) (b n : Nat) (f : Lit → Option Value)
    (hm : a.eval m = .map (some b)) (hown : MapIs w P k b n f) (key : Value) (kl : Lit) (hx : a.eval x = key) (hkey : keyOf P k key = some kl) (hv : f kl = none)
    (hK : wpList P ops Q rest (a.put o.dst (.tuple #[z, .bool false])) w) :
    wpList P ops Q (o :: rest) a w := by
  obtain ⟨D, hD, h1, h2⟩ := hown
  refine wpList_lookup_own_ok w hg m x t hop k e K ht heldR (hz w) (.held z) [] rfl b n D hm hD key kl hx hkey (fun v' ps hv' => ?_)
  have hh : Maps.has D kl = false := by rw [h2, hv]; rfl
  rw [atKey_of_not_has hh, heldR_mk] at hv'
  have hv1 : v' = z := by injection (Prod.mk.inj (Option.some.inj hv')).1
  rw [hv1, hh]
  exact hK

theorem wpList_wanted (hw : Region.wanted o (yielded ops a.tmps) = true)
    (h : ∀ K : Act → World → Prop, (∀ a w, wpList P ops Q rest a w → K a w) → o.wp P a w K Q) : wpList P ops Q (o :: rest) a w :=
  wpList_step fun K hK => by rw [if_pos hw]; exact h K hK
theorem wanted_of_none (hg : o.guard = none) : Region.wanted o (yielded ops a.tmps) = true := by simp [Region.wanted, hg]

/-- 'm[k]' without ok. -/
theorem wp_lookup_some (hg : Region.wanted o (yielded ops a.tmps) = true) (m x : Operand) (t : TypeId) (hop : o.op = Op.lookup t m x false)
    (k e : TypeId) (K : Keyed P k) (ht : P.underlying t = some (.map k e)) {z : Value} (hz : ∀ w, (zeroValue e).run P w = .ok z w) (b n : Nat) (f : Lit → Option Value)
    (hm : a.eval m = .map (some b)) (hown : MapIs w P k b n f) (key : Value) (kl : Lit) (hx : a.eval x = key) (hkey : keyOf P k key = some kl) (v : Value) (hv : (f kl).getD z = v)
    (hK : wpList P ops Q rest (a.put o.dst v) w) :
    wpList P ops Q (o :: rest) a w := by
  obtain ⟨D, hD, h1, h2⟩ := hown
  refine wpList_wanted w hg fun K' hK' => ?_
  obtain ⟨v', ps, hrun, hR⟩ := hD.lookup K ht (hz w) (zd := .held z) (zp := []) rfl hkey
  have hvv : v' = v := by
    rw [heldR_mk] at hR
    have hR1 := (Prod.mk.inj (Option.some.inj hR)).1
    cases hh : Maps.has D kl with
    | false =>
      rw [atKey_of_not_has hh] at hR1
      have h5 := h2 kl
      rw [hh] at h5
      have h6 : f kl = none := by
        cases hf : f kl with
        | none => rfl
        | some u => rw [hf] at h5; cases h5
      rw [h6] at hv
      have hR2 : v' = z := by injection hR1
      rw [hR2]; exact hv
    | true =>
      have h3 := h1 kl
      unfold getM at h3
      rw [if_pos hh] at h3
      rw [atKey_all hD.isMap hh _ .nil] at hR1
      rw [← hR1] at h3
      rw [← h3] at hv
      exact hv
  unfold Oper.wp
  simp [execOp, hop, hm, hx, hrun, Result.andThen]
  rw [hvv]
  exact hK' _ _ hK
end

/-- A range over such a map under way: 'left': which keys are still to come. -/
def RangeIs (w : World) (P : Program) (k : TypeId) (b r n : Nat) (f : Lit → Option Value) (left : Lit → Bool) (cnt : Nat) : Prop :=
  ∃ D : DataW Value, w.ranges P k heldR b r n D left cnt ∧ (∀ kl, getM D kl = f kl) ∧ ∀ kl, Maps.has D kl = (f kl).isSome

section
variable {P : Program} {k : TypeId} {b r n cnt : Nat} {f : Lit → Option Value} {left : Lit → Bool} {w w' : World}
theorem RangeIs.owns (h : RangeIs w P k b r n f left cnt) : MapIs w P k b n f := by obtain ⟨D, h, r⟩ := h; exact ⟨D, h.owns, r⟩
theorem RangeIs.left_eq (h : RangeIs w P k b r n f left cnt) : w.rangeLeft b r = cnt := by obtain ⟨D, h, _⟩ := h; exact h.left_eq
theorem RangeIs.ne (h : RangeIs w P k b r n f left cnt) : r ≠ b := by obtain ⟨D, h, _⟩ := h; exact h.ne
theorem RangeIs.lt (h : RangeIs w P k b r n f left cnt) : r < w.heap.size := by obtain ⟨D, h, _⟩ := h; exact h.lt
theorem RangeIs.kept {row : Option Nat} (h : RangeIs w P k b r n f left cnt) (hg : w.grownBy w' row) (h1 : some b ≠ row) (h2 : some r ≠ row) : RangeIs w' P k b r n f left cnt := by
  obtain ⟨D, h, q⟩ := h; exact ⟨D, h.kept hg h1 h2, q⟩
theorem RangeIs.alloc (h : RangeIs w P k b r n f left cnt) (o : Obj) : RangeIs (w.alloc o) P k b r n f left cnt := h.kept (World.grownBy_alloc w o none) (by simp) (by simp)
theorem RangeIs.of_blocks (h : RangeIs w P k b r n f left cnt) (h1 : w'.heap[b]? = w.heap[b]?) (h2 : w'.heap[r]? = w.heap[r]?) : RangeIs w' P k b r n f left cnt := by
  obtain ⟨D, ⟨es, clock, since, seen, c0, hb, F, hs, hD, hr, rest⟩, q⟩ := h
  exact ⟨D, ⟨es, clock, since, seen, c0, h1.trans hb, F, hs, hD, h2.trans hr, rest⟩, q⟩
theorem RangeIs.below (h : RangeIs w P k b r n f left cnt) {B : Nat} (hb : Below B w w') (hB : b < B) (hR : r < B) : RangeIs w' P k b r n f left cnt :=
  h.of_blocks (hb.block b hB) (hb.block r hR)
theorem RangeIs.drewN (h : RangeIs w P k b r n f left cnt) (m : Nat) : RangeIs (w.drewN m) P k b r n f left cnt := h.of_blocks rfl rfl
end

section
variable {P : Program} (w : World) {ops : Array Oper} {rest : List Oper} {o : Oper} {a : Act} {Q : Exit → Act → World → Prop}

theorem wp_range (hg : o.guard = none) (m : Operand) (t : TypeId) (hop : o.op = Op.range t m) (k e : TypeId) (K : Keyed P k) (ht : P.underlying t = some (.map k e)) (b n : Nat) (f : Lit → Option Value)
    (hm : a.eval m = .map (some b)) (hown : MapIs w P k b n f)
    (hK : ∀ w' cnt, RangeIs w' P k b w.heap.size n f (fun kl => (f kl).isSome) cnt → cnt ≤ n → w.grownBy w' none → w'.heap.size = w.heap.size + 1 → wpList P ops Q rest (a.put o.dst (.pointer (some ⟨w.heap.size, 0, none⟩))) w') :
    wpList P ops Q (o :: rest) a w := by
  obtain ⟨D, hD, h1, h2⟩ := hown
  refine wpList_range_own w hg m t hop k e K ht heldR b n D hm hD (fun w' hr hg' hs => ?_)
  have e1 : Maps.has D = fun kl => (f kl).isSome := funext h2
  rw [e1] at hr
  exact hK w' _ ⟨D, hr, h1, h2⟩ hD.size_le hg' hs

theorem wp_next (hg : o.guard = none) (it : Operand) (hop : o.op = Op.next it false) (k : TypeId) (K : Keyed P k)
    (b r n : Nat) (f : Lit → Option Value) (left : Lit → Bool) (cnt : Nat)
    (hit : a.eval it = .pointer (some ⟨r, 0, none⟩)) (h : RangeIs w P k b r n f left cnt)
    (hDone : cnt = 0 → (∀ kl, left kl = false) → wpList P ops Q rest (a.put o.dst (.tuple #[.bool false])) w)
    (hMore : ∀ (key v : Value) (kl : Lit) (w' : World) (cnt' : Nat), keyOf P k key = some kl → left kl = true → f kl = some v → RangeIs w' P k b r n f (fun z => left z && !z.sameKey kl) cnt' → cnt' < cnt →
      w.grownBy w' (some r) → w'.heap.size = w.heap.size → (Instr.entry (.pointer (some ⟨r, 0, none⟩))).run P w' = .ok (.tuple #[key, v]) w' → wpList P ops Q rest (a.put o.dst (.tuple #[.bool true, key, v])) w') :
    wpList P ops Q (o :: rest) a w := by
  obtain ⟨D, hr, h1, h2⟩ := h
  refine wpList_next_ranges w hg it hop k K heldR (fun v : Value => v) (fun v : Value => v) (fun key _ _ => ⟨key, rfl⟩) (fun v _ _ => ⟨v, rfl⟩) b r n D left cnt hit hr hDone
    (fun key v kl y w' cnt' hkey hl hv hat hr' hlt hgr hsz hen => ?_)
  refine hMore key v kl w' cnt' hkey hl ?_ ⟨D, hr', h1, h2⟩ hlt hgr hsz hen
  rw [heldR_mk] at hv
  have hy : y.1 = .held v := by rw [← Option.some.inj hv]
  have h3 : ∀ z, D.atKey kl z = .held v := fun z => by rw [hat z, hy]
  have hh : Maps.has D kl = true := by
    cases hh : Maps.has D kl with
    | true => rfl
    | false =>
      have := h3 .nil
      rw [atKey_of_not_has hh] at this
      cases this
  have := h1 kl
  unfold getM at this
  rw [if_pos hh, h3] at this
  exact this.symm
end
end ScKit

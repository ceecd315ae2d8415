/- Maps at their operations' runs: a lookup, a store, 'm[k] += x' in its two halves. -/
import Derived.Test.YtaogmbiepbhmoaaLed
import Derived.WideKeyEntry
namespace ScKit
open Go Go.RowKit Go.Maps Go.WideElems Go.ChangeMaps

section
variable {P : Program} {k : TypeId} {w : World} {b n : Nat} {f : Lit → Option Value} {t e : TypeId} {z : Value} {key : Value} {kl : Lit}

theorem mapBlkK {w' : World} (h : MapIs w P k b n f) (hb : w'.heap[b]? = w.heap[b]?) : MapIs w' P k b n f := by
  obtain ⟨D, ⟨es, clock, h1, h2⟩, r⟩ := h
  exact ⟨D, ⟨es, clock, hb.trans h1, h2⟩, r⟩
theorem run_lookup (K : Keyed P k) (ht : P.underlying t = some (.map k e)) (hz : ∀ w, (zeroValue e).run P w = .ok z w) (h : MapIs w P k b n f) (hkey : keyOf P k key = some kl) {v : Value} (hv : (f kl).getD z = v) :
    (Instr.lookup t (.map (some b)) key false).run P w = .ok v w := by
  obtain ⟨D, hD, h1, h2⟩ := h
  obtain ⟨v', ps, hrun, hR⟩ := hD.lookup K ht (hz w) (zd := .held z) (zp := []) rfl hkey
  have hvv : v' = v := by
    rw [heldR_mk] at hR
    have hR1 := (Prod.mk.inj (Option.some.inj hR)).1
    cases hh : Maps.has D kl with
    | false =>
      rw [atKey_of_not_has hh] at hR1
      have h5 := h2 kl
      rw [hh] at h5
      have h6 : f kl = none := by
        cases hf : f kl with
        | none => rfl
        | some u => rw [hf] at h5; cases h5
      rw [h6] at hv
      have hR2 : v' = z := by injection hR1
      rw [hR2]; exact hv
    | true =>
      have h3 := h1 kl
      unfold getM at h3
      rw [if_pos hh] at h3
      rw [atKey_all hD.isMap hh _ .nil] at hR1
      rw [← hR1] at h3
      rw [← h3] at hv
      exact hv
  rw [hrun, hvv]
theorem run_lookup_ok (K : Keyed P k) (ht : P.underlying t = some (.map k e)) (hz : ∀ w, (zeroValue e).run P w = .ok z w) (h : MapIs w P k b n f) (hkey : keyOf P k key = some kl) {v : Value} (hv : (f kl).getD z = v) :
    (Instr.lookup t (.map (some b)) key true).run P w = .ok (.tuple #[v, .bool (f kl).isSome]) w := by
  have h0 := run_lookup K ht hz h hkey hv
  obtain ⟨D, hD, h1, h2⟩ := h
  obtain ⟨v', ps, hrun, hv'⟩ := hD.look_ok K ht (hz w) (zd := .held z) (zp := []) rfl hkey
  obtain ⟨v2, ps2, hrun2, hR2⟩ := hD.lookup K ht (hz w) (zd := .held z) (zp := []) rfl hkey
  have e1 : v2 = v := by
    rw [h0] at hrun2
    injection hrun2 with e _
    exact e.symm
  have e2 : v' = v := by
    rw [heldR_mk] at hv' hR2
    have a1 := (Prod.mk.inj (Option.some.inj hv')).1
    have a2 := (Prod.mk.inj (Option.some.inj hR2)).1
    rw [← a2] at a1
    injection a1 with a1
    rw [a1, e1]
  rw [hrun, e2, h2]
theorem run_update (K : Keyed P k) (ht : P.underlying t = some (.map k e)) (h : MapIs w P k b n f) (hn : n < maxLen) (hkey : keyOf P k key = some kl) (val : Value) :
    ∃ w', (Instr.mapUpdate t (.map (some b)) key val).run P w = .ok () w' ∧ MapIs w' P k b (n + 1) (upd f kl val) ∧ w.grownBy w' (some b) := by
  obtain ⟨D, hD, h1, h2⟩ := h
  obtain ⟨w', hrun, r1, r2⟩ := hD.update K ht hn hkey (heldR_mk val)
  obtain ⟨p1, p2⟩ := MapIs.put_of hD.isMap h1 h2 (K.key hkey) val
  exact ⟨w', hrun, ⟨_, r1, p1, p2⟩, r2⟩
theorem map_len (h : MapIs w P k b n f) (ht : P.underlying t = some (.map k e)) : ∃ sz : Nat, (∀ ty, (Builtin.len_ #[t] ty #[.map (some b)]).run P w = .ok (.int .i64 sz) w) ∧ sz ≤ n := by
  obtain ⟨D, hD, _⟩ := h
  exact ⟨Maps.size D, fun ty => hD.len ht ty, hD.size_le⟩
theorem grown_setBlock (w : World) (b : Nat) (o : Obj) (_ : b < w.heap.size) : w.grownBy (setBlock w b o) (some b) :=
  ⟨rfl, rfl, rfl, by simp [setBlock], fun j _ hn => by
    have : j ≠ b := fun e => hn (by rw [e])
    simp [setBlock, Ne.symm this]⟩
/-- 'm[k] += x': the entry is asked for, what it held having been read or not; then it is written. -/
theorem run_entry (K : Keyed P k) (ht : P.underlying t = some (.map k e)) (hz : ∀ w, (zeroValue e).run P w = .ok z w) (h : MapIs w P k b n f) (hn : n < maxLen) (hkey : keyOf P k key = some kl) :
    ∃ v0 st w1, (Instr.mapEntry t (.map (some b)) key).run P w = .ok (.tuple #[v0, goInt st]) w1 ∧ w.grownBy w1 (some b) ∧ (∃ f1, MapIs w1 P k b (n + 1) f1 ∧ (f1 kl).getD z = (f kl).getD z) ∧
      ∀ (w2 : World) (val : Value), w2.heap[b]? = w1.heap[b]? → ∃ w3, (Instr.entryStore t (.map (some b)) (goInt st) val).run P w2 = .ok () w3 ∧ w2.grownBy w3 (some b) ∧ MapIs w3 P k b (n + 1) (upd f kl val) := by
  have hup := fun val => run_update K ht h hn hkey val
  have hlk := run_lookup K ht hz h hkey (v := (f kl).getD z) rfl
  have hlt := h.lt
  have h' := h
  obtain ⟨D, ⟨es, clock, hb, F, _, _⟩, h1, h2⟩ := h'
  obtain ⟨s1, s2, _⟩ := F.stamped
  have at_b : ∀ (w : World) o, b < w.heap.size → (setBlock w b o).heap[b]? = some o := fun w o hl => by simp [setBlock, hl]
  rcases K.find w hkey es.toList F.keys with ⟨q1, q2⟩ | ⟨j, e0, q1, q2, q3⟩
  · have hmu : ∀ val, (Instr.mapUpdate t (.map (some b)) key val).run P w = .ok () (setBlock w b (.map (es.push ⟨key, val, clock⟩) (clock + 1))) := fun val => by
      simp [Instr.mapUpdate, run_underlying ht, MapKept.run_getObj_map hb, K.check w false hkey, q1, MapKept.run_setObj_map _ hb, Result.andThen, setBlock]
    have hmap : ∀ val, MapIs (setBlock w b (.map (es.push ⟨key, val, clock⟩) (clock + 1))) P k b (n + 1) (upd f kl val) := fun val => by
      obtain ⟨w', hr, hM, _⟩ := hup val
      rw [hmu val] at hr
      injection hr with _ hr
      rw [hr]; exact hM
    have hvz : (f kl).getD z = z := by
      have : (Instr.lookup t (.map (some b)) key false).run P w = .ok z w := by
        simp [Instr.lookup, run_underlying ht, MapKept.run_getObj_map hb, K.check w es.isEmpty hkey, q1, hz, Result.andThen]
      rw [hlk] at this
      injection this
    refine ⟨z, clock, setBlock w b (.map (es.push ⟨key, z, clock⟩) (clock + 1)), ?_, grown_setBlock w b _ hlt, ⟨_, hmap z, by rw [hvz]; simp [upd]⟩, fun w2 val hw2 => ?_⟩
    · simp [Instr.mapEntry, run_underlying ht, MapKept.run_getObj_map hb, K.check w false hkey, q1, hz, MapKept.run_setObj_map _ hb, Result.andThen, setBlock]
    · rw [at_b w _ hlt] at hw2
      have hidx : (es.push ⟨key, z, clock⟩).findIdx? (fun e => ((e.born : Nat) : Int) == ((clock : Nat) : Int)) = some es.size := by
        rw [findIdx_arr]
        exact findIdx_born (l := (es.push ⟨key, z, clock⟩).toList) (j := es.size) (e0 := ⟨key, z, clock⟩) (by
          simp only [Array.toList_push, List.map_append, List.map_cons, List.map_nil]
          refine List.nodup_append.2 ⟨s2, by simp, fun a ha c hc e1 => ?_⟩
          simp only [List.mem_singleton] at hc
          obtain ⟨x, hx, rfl⟩ := List.mem_map.1 ha
          have := s1 x hx
          omega) (by simp)
      have hmod : (es.push ⟨key, z, clock⟩).modify es.size (fun e => { e with val := val }) = es.push ⟨key, val, clock⟩ := by
        apply Array.ext'
        rw [Array.toList_modify, Array.toList_push, Array.toList_push, ← Array.length_toList, modify_last]
      have hlt2 : b < w2.heap.size := (Array.getElem?_eq_some_iff.1 hw2).1
      refine ⟨setBlock w2 b (.map (es.push ⟨key, val, clock⟩) (clock + 1)), ?_, grown_setBlock w2 b _ hlt2, ?_⟩
      · simp [Instr.entryStore, MapKept.run_getObj_map hw2, asInt, asIntOf, goInt, hidx, hmod, MapKept.run_setObj_map _ hw2, Result.andThen, setBlock]
      · exact mapBlkK (hmap val) (by rw [at_b w2 _ hlt2, at_b w _ hlt])
  · have hj : es[j]? = some e0 := by simpa using q2
    have hsame : es.modify j (fun e => { e with key := key }) = es := by
      apply Array.ext'
      rw [Array.toList_modify, modify_eq_set _ _ _ _ q2]
      have : ({ e0 with key := key } : MapEntry) = e0 := by rw [← q3]
      rw [this]
      exact set_self _ _ _ q2
    have hmu : ∀ val, (Instr.mapUpdate t (.map (some b)) key val).run P w = .ok () (setBlock w b (.map (es.modify j (fun e' => { e' with key := key, val := val })) clock)) := fun val => by
      simp [Instr.mapUpdate, run_underlying ht, MapKept.run_getObj_map hb, K.check w false hkey, q1, hj, q3, K.stays w hkey, MapKept.run_setObj_map _ hb, Result.andThen, setBlock]
    have hmap : ∀ val, MapIs (setBlock w b (.map (es.modify j (fun e' => { e' with key := key, val := val })) clock)) P k b (n + 1) (upd f kl val) := fun val => by
      obtain ⟨w', hr, hM, _⟩ := hup val
      rw [hmu val] at hr
      injection hr with _ hr
      rw [hr]; exact hM
    refine ⟨e0.val, e0.born, setBlock w b (.map es clock), ?_, grown_setBlock w b _ hlt, ⟨f, (mapBlkK h (by rw [at_b w _ hlt, hb])).mono (Nat.le_succ n), rfl⟩, fun w2 val hw2 => ?_⟩
    · simp [Instr.mapEntry, run_underlying ht, MapKept.run_getObj_map hb, K.check w false hkey, q1, hj, q3, K.stays w hkey, hsame, MapKept.run_setObj_map _ hb, Result.andThen, setBlock]
    · rw [at_b w _ hlt] at hw2
      have hidx : es.findIdx? (fun e => ((e.born : Nat) : Int) == ((e0.born : Nat) : Int)) = some j := by
        rw [findIdx_arr]
        exact findIdx_born s2 q2
      have hmod : es.modify j (fun e => { e with val := val }) = es.modify j (fun e' => { e' with key := key, val := val }) := by
        apply Array.ext'
        rw [Array.toList_modify, Array.toList_modify, modify_eq_set _ _ _ _ q2, modify_eq_set _ _ _ _ q2, ← q3]
      have hlt2 : b < w2.heap.size := (Array.getElem?_eq_some_iff.1 hw2).1
      refine ⟨setBlock w2 b (.map (es.modify j (fun e' => { e' with key := key, val := val })) clock), ?_, grown_setBlock w2 b _ hlt2, ?_⟩
      · simp [Instr.entryStore, MapKept.run_getObj_map hw2, asInt, asIntOf, goInt, hidx, hmod, MapKept.run_setObj_map _ hw2, Result.andThen, setBlock]
      · exact mapBlkK (hmap val) (by rw [at_b w2 _ hlt2, at_b w _ hlt])
end

section
variable {P : Program} {ops : Array Oper} {o : Oper} {a : Act} {Q : Exit → Act → World → Prop} {Kc : Act → World → Prop} {k : TypeId} {W : World} {b n : Nat} {f : Lit → Option Value} {t e : TypeId} {z : Value} {key : Value} {kl : Lit}
/-- 'm[k] = v' as an event of a drawing region. -/
theorem upd_step (hw : Region.wanted o (yielded ops a.tmps) = true) (m x y : Operand) (t : TypeId) (hop : o.op = Op.mapUpdate t m x y) (k e : TypeId) (K : Keyed P k) (ht : P.underlying t = some (.map k e)) (b n : Nat) (f : Lit → Option Value)
    (hm : a.eval m = .map (some b)) (hown : MapIs W P k b n f) (hn : n < maxLen) (key val : Value) (kl : Lit) (hx : a.eval x = key) (hv : a.eval y = val) (hkey : keyOf P k key = some kl)
    (h : ∀ w', MapIs w' P k b (n + 1) (upd f kl val) → W.grownBy w' (some b) → Kc (a.put o.dst undef) w') :
    if Region.wanted o (yielded ops a.tmps) = true then Oper.wp P o a W Kc Q else Kc (a.put o.dst undef) W := by
  obtain ⟨w', hrun, r1, r2⟩ := run_update K ht hown hn hkey val
  rw [if_pos hw]
  unfold Oper.wp
  simp [execOp, hop, hm, hx, hv, hrun, Result.andThen]
  exact h w' r1 r2
/-- 'm[k] += x', its first half, as an event. -/
theorem entry_step (hw : Region.wanted o (yielded ops a.tmps) = true) (m x : Operand) (t : TypeId) (hop : o.op = Op.mapEntry t m x) (b : Nat) (key : Value) (hm : a.eval m = .map (some b)) (hx : a.eval x = key) {v : Value} {w1 : World}
    (hrun : (Instr.mapEntry t (.map (some b)) key).run P W = .ok v w1) (h : Kc (a.put o.dst v) w1) :
    if Region.wanted o (yielded ops a.tmps) = true then Oper.wp P o a W Kc Q else Kc (a.put o.dst undef) W := by
  rw [if_pos hw]
  unfold Oper.wp
  simp [execOp, hop, hm, hx, hrun, Result.andThen]
  exact h
/-- .. its second half. -/
theorem estore_step (hw : Region.wanted o (yielded ops a.tmps) = true) (m s x : Operand) (t : TypeId) (hop : o.op = Op.entryStore t m s x) (b : Nat) (st val : Value) (hm : a.eval m = .map (some b)) (hs : a.eval s = st) (hx : a.eval x = val) {w1 : World}
    (hrun : (Instr.entryStore t (.map (some b)) st val).run P W = .ok () w1) (h : Kc (a.put o.dst undef) w1) :
    if Region.wanted o (yielded ops a.tmps) = true then Oper.wp P o a W Kc Q else Kc (a.put o.dst undef) W := by
  rw [if_pos hw]
  unfold Oper.wp
  simp [execOp, hop, hm, hs, hx, hrun, Result.andThen]
  exact h
end
end ScKit

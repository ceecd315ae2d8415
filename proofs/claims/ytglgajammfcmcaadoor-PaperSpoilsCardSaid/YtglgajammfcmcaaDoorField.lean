/- field.place, Get and Set walked: a row of fields, asked and turned by name. -/
import Derived.Test.YtglgajammfcmcaaDoorAx0
import Derived.WalkSmall
import Derived.Shelf.Abstract
import Derived.WalkSpells
namespace Go.Proofs.YtglgajammfcmcaaDoor.A
open Go.RowKit Go.Shelf Go.Proofs.YtglgajammfcmcaaDoorW.PrintWords Go.Proofs.YtglgajammfcmcaaDoorW.PrintLast Go.Proofs.YtglgajammfcmcaaDoorW.PrintMore
set_option linter.unusedVariables false
set_option linter.unusedSimpArgs false

/-- A text out of its letters. -/
def tx (l : List UInt8) : ByteArray := ⟨l.toArray⟩
theorem tx_size (l : List UInt8) : (tx l).size = l.length := by simp [tx, ByteArray.size]
theorem tx_of (s : ByteArray) : tx s.data.toList = s := by
  apply ByteArray.ext
  simp [tx]
theorem tl_tx (l : List UInt8) : (tx l).data.toList = l := by simp [tx]
theorem tlist {a b : ByteArray} : a.toList = b.toList ↔ a = b :=
  ⟨fun h => by rw [← tx_of a, ← tx_of b, ← ByteArray.toList_eq, ← ByteArray.toList_eq, h], fun h => by rw [h]⟩
/-- Are two texts one? -/
def eqB (a b : ByteArray) : Bool := a.toList == b.toList
theorem eqB_iff {a b : ByteArray} : eqB a b = true ↔ a = b := by
  unfold eqB
  rw [beq_iff_eq]
  exact tlist
theorem eqB_refl (a : ByteArray) : eqB a a = true := eqB_iff.2 rfl
theorem box_cell {w : World} {g : Nat} {v : Value} {t : TypeId} (h : w.heap[g]? = some (.cells #[v] t (0, 0))) : w.cell? ⟨g, 0, none⟩ = some v := (blk_cell h 0).trans rfl
theorem cellB' {w wr : World} (hb : Below w.heap.size w wr) {a : Addr} {v : Value} (h : w.cell? a = some v) : wr.cell? a = some v :=
  (hb.cell (World.block_lt_of_cell? w _ h)).trans h
/-- The place of the first field of a name. -/
def posP (n : ByteArray) : List S42 → Nat → Int
  | [], _ => -1
  | x :: l, i => if eqB x.f0 n = true then (i : Int) else posP n l (i + 1)
def getP (n : ByteArray) : List S42 → ByteArray × Bool
  | [] => (⟨#[]⟩, false)
  | x :: l => if eqB x.f0 n = true then (x.f1, true) else getP n l
def setP (n v : ByteArray) : List S42 → List S42
  | [] => [⟨n, v⟩]
  | x :: l => if eqB x.f0 n = true then ⟨x.f0, v⟩ :: l else x :: setP n v l
theorem pos_cases (n v : ByteArray) : ∀ (l : List S42) (i : Nat), (posP n l i = -1 ∧ getP n l = (⟨#[]⟩, false) ∧ setP n v l = l ++ [⟨n, v⟩]) ∨
    ∃ k, k < l.length ∧ posP n l i = ((i + k : Nat) : Int) ∧ getP n l = ((rd_T42 l (k : Int)).f1, true) ∧ setP n v l = l.set k ⟨(rd_T42 l (k : Int)).f0, v⟩
  | [], i => .inl ⟨rfl, rfl, rfl⟩
  | x :: l, i => by
    by_cases h : eqB x.f0 n = true
    · exact .inr ⟨0, by simp, by rw [posP, if_pos h]; rfl, by rw [getP, if_pos h]; rfl, by rw [setP, if_pos h]; rfl⟩
    · rcases pos_cases n v l (i + 1) with ⟨h1, h2, h3⟩ | ⟨k, hk, h1, h2, h3⟩
      · exact .inl ⟨by rw [posP, if_neg h, h1], by rw [getP, if_neg h, h2], by rw [setP, if_neg h, h3]; rfl⟩
      · refine .inr ⟨k + 1, by simpa using hk, ?_, ?_, ?_⟩
        · rw [posP, if_neg h, h1]; congr 1; omega
        · rw [getP, if_neg h, h2]; simp [rd_T42]
        · rw [setP, if_neg h, h3]; simp [rd_T42]
set_option maxHeartbeats 4000000 in
set_option maxRecDepth 100000 in
theorem place1_calls (x : S42) (g : Nat) (n : ByteArray) (w : World) (hb : w.heap[g]? = some (.cells #[.string n] 9 (0, 0))) :
    Calls Tryd.prog 29 #[.agg #[.string x.f0, .string x.f1], .pointer (some ⟨g, 0, none⟩)] w fun e w' => e = .returned (.bool (eqB x.f0 n)) ∧ Below w.heap.size w w' := by
  have c0 := box_cell hb
  have hlt := blk_lt hb
  have HE : Aside0 (eqB x.f0 n = (x.f0.toList == n.toList)) := ⟨rfl⟩
  clear hb
  go_enter Tryd.func29, Tryd.ntmps29
  go_wp2_with fail
  go_ret
  exact ⟨by rw [HE.out]; rfl, (Below.refl _ _).alloc (Nat.le_refl _) _⟩
theorem pos_drop (n : ByteArray) (l : List S42) (k : Nat) (h : k < l.length) : posP n (l.drop k) k = if eqB (rd_T42 l (k : Int)).f0 n = true then (k : Int) else posP n (l.drop (k + 1)) (k + 1) := by
  rw [List.drop_eq_getElem_cons h, posP]
  have e : rd_T42 l (k : Int) = l[k] := by simp [rd_T42, h]
  rw [e]
set_option maxHeartbeats 4000000 in
set_option maxRecDepth 100000 in
theorem index_calls (A : Option Addr) (c : Nat) (l : List S42) (g : Nat) (n : ByteArray) (w : World) (hC : Kd.C k42 w A l.length l) (hb : w.heap[g]? = some (.cells #[.string n] 9 (0, 0))) :
    Calls Tryd.prog 28 #[.slice A l.length c, .func (.func 29) #[] #[.pointer (some ⟨g, 0, none⟩)]] w fun e w' => e = .returned (.int .i64 (posP n l 0)) ∧ Below w.heap.size w w' := by
  have hmax : l.length ≤ 9223372036854775807 := hC.2.1
  have HC := Aside0.mk hC
  have HB0 := Aside0.mk hb
  clear hC hb
  go_enter Tryd.func28, Tryd.ntmps28
  go_wp2_with fail
  go_loopw [8] (fun i wr => ∃ k : Nat, k ≤ l.length ∧ i = .int .i64 k ∧ Aside0 (posP n (l.drop k) k = posP n l 0) ∧ Aside0 (Below w.heap.size w wr))
    (fun i _ => l.length - (RowKit.intOf i).toNat)
  case atStart => exact ⟨0, Nat.zero_le _, rfl, ⟨rfl⟩, ⟨Below.refl _ _⟩⟩
  case round =>
    obtain ⟨k, hk, rfl, HA, HB⟩ := hrel
    by_cases hlt : k < l.length
    · obtain ⟨ad, rfl, h0, h1⟩ := at_T42 HC.out (k : Int) (by omega) (by omega)
      simp only [Int.toNat_natCast] at h0 h1
      replace h0 := cellB' HB.out h0
      replace h1 := cellB' HB.out h1
      have HQ := Aside0.mk (place1_calls (rd_T42 l (k : Int)) g n wr ((HB.out.block g (blk_lt HB0.out)).trans HB0.out))
      have HD := Aside0.mk (pos_drop n l k hlt)
      obtain ⟨x, hxx⟩ : ∃ x, x = rd_T42 l (k : Int) := ⟨_, rfl⟩
      rw [← hxx] at h0 h1 HQ HD
      clear hxx
      go_wp2_with fail
      refine HQ.out.mono ?_
      rintro e w1 ⟨rfl, hB1⟩
      replace hB1 := Aside0.mk (HB.out.trans (hB1.mono HB.out.size))
      clear HQ
      cases hq : eqB x.f0 n
      · have HT1 : Aside0 (posP n (l.drop (k + 1)) (k + 1) = posP n l 0) := ⟨by rw [← HA.out, HD.out, hq]; rfl⟩
        clear hq HD HA
        go_wp2_with fail
        go_roundw
        case rel => exact ⟨k + 1, by omega, by go_num, HT1, hB1⟩
        case measure => simp [RowKit.intOf]; omega
      · have HT1 : Aside0 (posP n l 0 = (k : Int)) := ⟨by rw [← HA.out, HD.out, hq]; rfl⟩
        clear hq HD HA
        go_wp2_with fail
        go_ret
        exact ⟨by rw [HT1.out]; rfl, hB1.out⟩
    · obtain rfl : k = l.length := by omega
      have HT1 : Aside0 (posP n l 0 = -1) := ⟨by rw [← HA.out, List.drop_length]; rfl⟩
      clear HA
      go_wp2_with fail
      go_ret
      exact ⟨by rw [HT1.out]; rfl, HB.out⟩
set_option maxHeartbeats 4000000 in
set_option maxRecDepth 100000 in
theorem place_calls (A : Option Addr) (c : Nat) (l : List S42) (n : ByteArray) (w : World) (hC : Kd.C k42 w A l.length l) :
    Calls Tryd.prog 13 #[.slice A l.length c, .string n] w fun e w' => e = .returned (.int .i64 (posP n l 0)) ∧ Below w.heap.size w w' := by
  have B1 : Aside0 (Below w.heap.size w (w.alloc (.cells #[.string n] 9))) := ⟨(Below.refl _ _).alloc (Nat.le_refl _) _⟩
  have HI := Aside0.mk (index_calls A c l w.heap.size n (w.alloc (.cells #[.string n] 9)) (Kd.C_below hC B1.out) (heap_alloc_new w _))
  generalize posP n l 0 = i at HI
  clear hC
  go_enter Tryd.func13, Tryd.ntmps13
  go_wp2_with fail
  refine HI.out.mono ?_
  rintro e w1 ⟨rfl, hB1⟩
  replace hB1 := Aside0.mk (B1.out.trans (hB1.mono B1.out.size))
  clear HI
  go_wp2_with fail
  go_ret
  exact ⟨rfl, hB1.out⟩
set_option maxHeartbeats 4000000 in
set_option maxRecDepth 100000 in
theorem get_calls (A : Option Addr) (c : Nat) (l : List S42) (n : ByteArray) (w : World) (hC : Kd.C k42 w A l.length l) :
    Calls Tryd.prog 6 #[.slice A l.length c, .string n] w fun e w' => e = .returned (.tuple #[.string (getP n l).1, .bool (getP n l).2]) ∧ Below w.heap.size w w' := by
  have hmax : l.length ≤ 9223372036854775807 := hC.2.1
  have HI := Aside0.mk (place_calls A c l n w hC)
  have HC := Aside0.mk hC
  clear hC
  rcases pos_cases n n l 0 with ⟨h1, h2, _⟩ | ⟨k, hk, h1, h2, _⟩
  · rw [h1] at HI
    rw [h2]
    clear h1 h2
    go_enter Tryd.func6, Tryd.ntmps6
    go_wp2_with fail
    refine HI.out.mono ?_
    rintro e w1 ⟨rfl, hB1⟩
    replace hB1 := Aside0.mk hB1
    clear HI
    go_wp2_with fail
    go_ret2
    exact ⟨rfl, hB1.out⟩
  · rw [h1, Nat.zero_add] at HI
    rw [h2]
    clear h1 h2
    obtain ⟨ad, rfl, c0, c1⟩ := at_T42 HC.out (k : Int) (by omega) (by omega)
    simp only [Int.toNat_natCast] at c0 c1
    generalize rd_T42 l (k : Int) = x at c0 c1
    go_enter Tryd.func6, Tryd.ntmps6
    go_wp2_with fail
    refine HI.out.mono ?_
    rintro e w1 ⟨rfl, hB1⟩
    replace c0 := cellB' hB1 c0
    replace c1 := cellB' hB1 c1
    replace hB1 := Aside0.mk hB1
    clear HI
    go_wp2_with fail
    go_ret2
    exact ⟨rfl, hB1.out⟩
theorem info42 : (Tryd.prog.info? 42).map (fun i => (i.zero, i.size, i.bytes)) = some (some (.agg #[(.string ⟨#[]⟩), (.string ⟨#[]⟩)]), 2, 32) := by kernel_rfl
theorem R_lit0 {α : Type} (d : Kd α) (w : World) (e : TypeId) : d.R e (w.alloc (.cells #[] e)) w.heap.size (fun k => w.heap.size ≤ k) (.slice (some ⟨w.heap.size, 0, none⟩) 0 0) [] := by
  refine ⟨fun k hk => ?_, [], ?_, Reps.none _ _⟩
  · have : w.heap.size = k := by simpa [Value.ownBlock] using hk
    omega
  · exact World.ownsRow_lit (base := w.heap.size) (e := e) (size := d.sz) w #[] 0 (Nat.le_refl _) (Nat.zero_le _) (by simp)
set_option maxHeartbeats 1000000 in
set_option maxRecDepth 100000 in
/-- slices.Clone of fields. -/
theorem clone_calls (A : Option Addr) (c : Nat) (l : List S42) (w : World) (hr : Kd.C k42 w A l.length l) (hs : l.length ≤ 1000) :
    Calls Tryd.prog 27 #[.slice A l.length c] w fun e w' => ∃ v, e = .returned v ∧ Kd.R k42 42 w' w.heap.size (fun k => w.heap.size ≤ k) v l ∧ Below w.heap.size w w' := by
  have HR := Aside0.mk hr
  clear hr
  rcases A with _ | ad
  · have hl : l = [] := by
      rcases l with _ | ⟨x, l⟩
      · rfl
      · obtain ⟨ad, h, _⟩ := HR.out.2.2 (by simp)
        cases h
    subst hl
    clear HR
    have hnil := fun (w : World) => Lib.run_eql_slice_nil (P := Tryd.prog) w 22 42 none 0 c 0 0 Tryd.underlying22
    go_enter Tryd.func27, Tryd.ntmps27
    go_wp2
    go_ret
    exact ⟨.slice none 0 0, rfl, ⟨fun k hk => by simp [Value.ownBlock] at hk, [], World.ownsRow_nil _ _ _ _, Reps.none _ _⟩, Below.refl _ _⟩
  · have hnil := fun (w : World) => Lib.run_eql_slice_nil (P := Tryd.prog) w 22 42 (some ad) l.length c 0 0 Tryd.underlying22
    go_enter Tryd.func27, Tryd.ntmps27
    go_wp2_with (at_builtin; refine Kd.R_append_rows k42 (Rr := k42.K w) (w0 := w) w.heap.size rfl _ _ 22 42 _ 32 rfl Tryd.underlying22 info42 rfl (by decide) (by decide) _ ([] : List S42) l (some ad) l.length c (fun k => w.heap.size ≤ k) (fun _ => False) rfl rfl ?ho ?hr (fun x cs h => ?hm) (fun _ h => h.elim) ?hf ?hb ?hs ?hl ?_)
    case ho => exact R_lit0 k42 w 42
    case hr => exact Kd.C_below HR.out ((Below.refl _ _).alloc (Nat.le_refl _) _)
    case hm => rw [k42_open h]; exact k42_mkM _ _ _ _
    case hf => intro k hk; simp at hk; omega
    case hb => exact (Below.refl _ _).alloc (Nat.le_refl _) _
    case hs => simp
    case hl => simp; omega
    intro v1 w1 h1 h2 _ _
    obtain ⟨A', c', rfl⟩ := Kd.R_slice h1
    have h1 := Aside0.mk h1
    have h2 := Aside0.mk h2
    go_wp2
    go_ret
    exact ⟨_, rfl, h1.out, h2.out⟩
theorem R_block {α : Type} {d : Kd α} {e base g n cap : Nat} {ok : Nat → Prop} {w : World} {xs : List α} (h : d.R e w base ok (.slice (some ⟨g, 0, none⟩) n cap) xs) : ∃ cur, w.heap[g]? = some (.cells cur e (0, 0)) := by
  obtain ⟨_, inner, ho, _⟩ := h
  rcases ho.2 with ⟨e1, _⟩ | ⟨g', cap', cur, e1, _, hgb, _⟩
  · cases e1
  · injection e1 with e1 _ _
    injection e1 with e1
    injection e1 with e1
    subst e1
    exact ⟨cur, hgb⟩
theorem add0 (g k : Nat) : (Addr.mk g 0 none).add k = ⟨g, k, none⟩ := by
  unfold Addr.add
  split
  · rename_i h; subst h; rfl
  · simp
set_option maxHeartbeats 4000000 in
set_option maxRecDepth 100000 in
theorem set_calls (A : Option Addr) (c : Nat) (l : List S42) (n v : ByteArray) (w : World) (hC : Kd.C k42 w A l.length l) (hs : l.length ≤ 1000) :
    Calls Tryd.prog 12 #[.slice A l.length c, .string n, .string v] w fun e w' => ∃ u, e = .returned u ∧ Kd.R k42 42 w' w.heap.size (fun k => w.heap.size ≤ k) u (setP n v l) ∧ Below w.heap.size w w' := by
  have HK := Aside0.mk (clone_calls A c l w hC hs)
  clear hC
  rcases pos_cases n v l 0 with ⟨h1, _, h2⟩ | ⟨k, hk, h1, _, h2⟩
  · rw [h2]
    clear h2
    go_enter Tryd.func12, Tryd.ntmps12
    go_wp2_with fail
    refine HK.out.mono ?_
    rintro e w1 ⟨u1, rfl, hR, hB1⟩
    obtain ⟨A1, c1, rfl, hl1, hC1⟩ := Kd.R_reads hR
    have HI := Aside0.mk (place_calls A1 c1 l n w1 hC1)
    rw [h1] at HI
    replace hR := Aside0.mk hR
    replace hB1 := Aside0.mk hB1
    replace hs := Aside0.mk hs
    clear HK h1 hl1 hC1
    go_wp2_with fail
    refine HI.out.mono ?_
    rintro e w2 ⟨rfl, hB2⟩
    have hR2 : Aside0 (Kd.R k42 42 w2 w.heap.size (fun k => w.heap.size ≤ k) (.slice A1 l.length c1) l) := ⟨Kd.R_below hR.out hB2⟩
    replace hB2 := Aside0.mk (hB1.out.trans (hB2.mono hB1.out.size))
    clear HI hR hB1
    go_wp2_with (at_builtin; refine Kd.R_append k42 (w0 := w) w.heap.size rfl _ _ 22 42 _ 32 rfl Tryd.underlying22 info42 rfl (by decide) (by decide) (.slice A1 l.length c1) l (⟨n, v⟩ : S42) [.string n, .string v] (fun k => w.heap.size ≤ k) (fun _ => False) rfl rfl ?hp (fun _ h => h.elim) ?hf ?ho ?hb ?hs ?hl ?_)
    case hp => exact k42_mkM _ _ _ (⟨n, v⟩ : S42)
    case hf => intro k hk; have := hB2.out.size; omega
    case ho => exact hR2.out
    case hb => exact hB2.out
    case hs => exact hB2.out.size
    case hl => have := hs.out; omega
    intro v1 w3 h3 h4 _ _
    obtain ⟨A', c', rfl⟩ := Kd.R_slice h3
    replace h3 := Aside0.mk h3
    replace h4 := Aside0.mk h4
    clear hR2 hB2
    go_wp2
    go_ret
    exact ⟨_, rfl, h3.out, h4.out⟩
  · obtain ⟨x, hx⟩ : ∃ x, x = rd_T42 l (k : Int) := ⟨_, rfl⟩
    rw [h2, ← hx]
    replace hx := Aside0.mk hx
    clear h2
    go_enter Tryd.func12, Tryd.ntmps12
    go_wp2_with fail
    refine HK.out.mono ?_
    rintro e w1 ⟨u1, rfl, hR, hB1⟩
    obtain ⟨A1, c1, rfl, hl1, hC1⟩ := Kd.R_reads hR
    have HI := Aside0.mk (place_calls A1 c1 l n w1 hC1)
    rw [h1, Nat.zero_add] at HI
    obtain ⟨ad, rfl, a0, a1⟩ := at_T42 hC1 (k : Int) (by omega) (by omega)
    obtain ⟨g, rfl⟩ := Kd.R_head hR
    rw [← hx.out] at a0 a1
    simp only [Int.toNat_natCast] at a0 a1
    replace hR := Aside0.mk hR
    replace hB1 := Aside0.mk hB1
    replace hs := Aside0.mk hs
    clear HK h1 hl1 hC1
    go_wp2_with fail
    refine HI.out.mono ?_
    rintro e w2 ⟨rfl, hB2⟩
    replace a0 := cellB' hB2 a0
    replace a1 := cellB' hB2 a1
    have hR2 := Kd.R_below hR.out hB2
    rw [add0] at a0 a1
    simp only at a1
    have hseg := Aside0.mk (Kd.R_seg (okp := fun _ => False) (x' := (⟨x.f0, v⟩ : S42)) (c := [.string x.f0, .string x.f1]) (seg := [.string v]) (j := 1) hR2 (k : Int) (by omega) (by omega) rfl ?hcc (Nat.le_refl 2) ?hM (fun _ h => h.elim))
    case hcc =>
      intro j u hu
      rw [Int.toNat_natCast, show k42.sz = 2 from rfl]
      rcases j with _ | _ | j
      · simp only [List.getElem?_cons_zero, Option.some.injEq] at hu
        subst hu
        exact a0
      · simp only [List.getElem?_cons_succ, List.getElem?_cons_zero, Option.some.injEq] at hu
        subst hu
        exact a1
      · simp at hu
    case hM => exact k42_mkM _ _ _ _
    rw [Int.toNat_natCast, show k42.sz = 2 from rfl] at hseg
    have hfz : w2.frozen? ⟨g, k * 2 + 1, none⟩ = false := by
      obtain ⟨cur, hcur⟩ := R_block hR2
      exact blk_frozen hcur _
    have hwg : Aside0 (w.heap.size ≤ g) := ⟨Kd.R_base hR2 g (by simp [Value.ownBlock])⟩
    replace hB2 := Aside0.mk (hB1.out.trans (hB2.mono hB1.out.size))
    clear HI hR hB1 hR2
    go_wp2_with fail
    go_ret
    exact ⟨_, rfl, hseg.out.1, hB2.out.grown hseg.out.2 hB2.out.size (fun j e => by injection e with e; rw [← e]; exact hwg.out)⟩
end Go.Proofs.YtglgajammfcmcaaDoor.A

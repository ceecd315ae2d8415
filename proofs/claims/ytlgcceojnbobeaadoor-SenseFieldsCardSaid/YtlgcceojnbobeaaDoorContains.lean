/- Rows of atoms, and whether one of them meets a closure's question. -/
import Derived.Test.YtlgcceojnbobeaaDoorApart
namespace Go.Proofs.YtlgcceojnbobeaaDoor.A
open Go.RowKit Go.Shelf Go.Lib Go.Proofs.YtlgcceojnbobeaaDoorW.PrintWords Go.Proofs.YtlgcceojnbobeaaDoorW.PrintLast Go.Proofs.YtlgcceojnbobeaaDoorW.PrintMore
set_option linter.unusedVariables false
set_option linter.unusedSimpArgs false

/-- An atom as it lies in memory: what it leads to is carried along. -/
structure At where
  c : Core
  p : Int
  l : Value
instance : Inhabited Core := ⟨⟨0, ⟨#[]⟩, ⟨#[]⟩, 0⟩⟩
def zAt : At := ⟨⟨0, ⟨#[]⟩, ⟨#[]⟩, 0⟩, 0, .slice none 0 0⟩
instance : Inhabited At := ⟨zAt⟩
def kAt : Kd At := Kd.iso (Kd.pair (Kd.int .i64) (Kd.pair (Kd.int .i64) (Kd.pair Kd.string (Kd.pair Kd.string (Kd.pair (Kd.int .i64) (Kd.raw 1)))))) (fun x : At => (x.c.k, x.p, x.c.f, x.c.t, x.c.n, [x.l]))
def atC (x : At) : List Value := [.int .i64 x.c.k, .int .i64 x.p, .string x.c.f, .string x.c.t, .int .i64 x.c.n, x.l]
def atV (x : At) : Value := nodeV x.c x.p x.l
theorem kAt_open {w : World} {x : At} {cs : List Value} (h : kAt.K w x cs) : cs = atC x := by
  obtain ⟨_, _, rfl, rfl, ⟨_, _, rfl, rfl, ⟨_, _, rfl, rfl, ⟨_, _, rfl, rfl, ⟨_, _, rfl, rfl, ⟨rfl, _, _⟩⟩⟩⟩⟩⟩ := h
  exact rfl
theorem kAt_mk (w : World) (x : At) (h : x.l.oneCell' = true) : kAt.K w x (atC x) := ⟨[.int .i64 x.c.k], [.int .i64 x.p, .string x.c.f, .string x.c.t, .int .i64 x.c.n, x.l], rfl, rfl, ⟨[.int .i64 x.p], [.string x.c.f, .string x.c.t, .int .i64 x.c.n, x.l], rfl, rfl, ⟨[.string x.c.f], [.string x.c.t, .int .i64 x.c.n, x.l], rfl, rfl, ⟨[.string x.c.t], [.int .i64 x.c.n, x.l], rfl, rfl, ⟨[.int .i64 x.c.n], [x.l], rfl, rfl, ⟨rfl, rfl, by simpa using h⟩⟩⟩⟩⟩⟩
theorem kAt_mkM (w : World) (base : Nat) (ok : Nat → Prop) (x : At) (h : x.l.oneCell' = true) : kAt.M w base ok x (atC x) := ⟨[.int .i64 x.c.k], [.int .i64 x.p, .string x.c.f, .string x.c.t, .int .i64 x.c.n, x.l], rfl, rfl, ⟨[.int .i64 x.p], [.string x.c.f, .string x.c.t, .int .i64 x.c.n, x.l], rfl, rfl, ⟨[.string x.c.f], [.string x.c.t, .int .i64 x.c.n, x.l], rfl, rfl, ⟨[.string x.c.t], [.int .i64 x.c.n, x.l], rfl, rfl, ⟨[.int .i64 x.c.n], [x.l], rfl, rfl, ⟨rfl, rfl, by simpa using h⟩⟩⟩⟩⟩⟩
def rd_At (xs : List At) (i : Int) : At := xs.getD i.toNat zAt
theorem at_At {w : World} {A : Option Addr} {n : Nat} {xs : List At} (h : Kd.C kAt w A n xs) (i : Int) (h0 : 0 ≤ i) (h1 : i < n) : ∃ ad, A = some ad ∧ (w.cell? (ad.add (i.toNat * 6)) = some (.int .i64 (rd_At xs i).c.k) ∧ w.cell? ⟨(ad.add (i.toNat * 6)).block, (ad.add (i.toNat * 6)).off + 1, none⟩ = some (.int .i64 (rd_At xs i).p) ∧ w.cell? ⟨(ad.add (i.toNat * 6)).block, (ad.add (i.toNat * 6)).off + 2, none⟩ = some (.string (rd_At xs i).c.f) ∧ w.cell? ⟨(ad.add (i.toNat * 6)).block, (ad.add (i.toNat * 6)).off + 3, none⟩ = some (.string (rd_At xs i).c.t) ∧ w.cell? ⟨(ad.add (i.toNat * 6)).block, (ad.add (i.toNat * 6)).off + 4, none⟩ = some (.int .i64 (rd_At xs i).c.n) ∧ w.cell? ⟨(ad.add (i.toNat * 6)).block, (ad.add (i.toNat * 6)).off + 5, none⟩ = some (rd_At xs i).l) := by
  obtain ⟨ad, c, e, _, hK, hc0⟩ := Kd.C_get h zAt i h0 h1
  have hc : ∀ j u, c[j]? = some u → w.cell? (ad.add (i.toNat * 6 + j)) = some u := hc0
  obtain rfl := kAt_open hK
  exact ⟨ad, e, hc 0 _ rfl, by rw [← add_field _ _ 1 (by omega)]; exact hc 1 _ rfl, by rw [← add_field _ _ 2 (by omega)]; exact hc 2 _ rfl, by rw [← add_field _ _ 3 (by omega)]; exact hc 3 _ rfl, by rw [← add_field _ _ 4 (by omega)]; exact hc 4 _ rfl, by rw [← add_field _ _ 5 (by omega)]; exact hc 5 _ rfl⟩
/-- A row of rows of atoms. -/
def kRow : Kd (List At) := Kd.slice 24 kAt
def rd_Row (xs : List (List At)) (i : Int) : List At := xs.getD i.toNat []
theorem at_Row {w : World} {A : Option Addr} {n : Nat} {xs : List (List At)} (h : Kd.C kRow w A n xs) (i : Int) (h0 : 0 ≤ i) (h1 : i < n) : ∃ ad A0 c0, A = some ad ∧ w.cell? (ad.add i.toNat) = some (.slice A0 (rd_Row xs i).length c0) ∧ (rd_Row xs i).length ≤ c0 ∧ kAt.C w A0 (rd_Row xs i).length (rd_Row xs i) := by
  obtain ⟨ad, c, e, _, hK, hc0⟩ := Kd.C_get h ([] : List At) i h0 h1
  have hc : ∀ j u, c[j]? = some u → w.cell? (ad.add (i.toNat * 1 + j)) = some u := hc0
  obtain ⟨A0, c0, rfl, l0, g0⟩ := hK
  exact ⟨ad, A0, c0, e, by have hq := hc 0 _ rfl; rwa [Nat.mul_one, Nat.add_zero] at hq, l0, g0⟩
theorem any_take {α : Type} (P : α → Bool) (l : List α) (k : Nat) (h : k < l.length) : (l.take (k + 1)).any P = ((l.take k).any P || P l[k]) := by
  rw [List.take_succ_eq_append_getElem h, List.any_append, List.any_cons, List.any_nil, Bool.or_false]
theorem any_at {α : Type} (P : α → Bool) (l : List α) (k : Nat) (h : k < l.length) (hp : P l[k] = true) : l.any P = true := List.any_eq_true.2 ⟨_, List.getElem_mem h, hp⟩
theorem cellB' {w wr : World} (hb : Below w.heap.size w wr) {a : Addr} {v : Value} (h : w.cell? a = some v) : wr.cell? a = some v :=
  (hb.cell (World.block_lt_of_cell? w _ h)).trans h

set_option maxHeartbeats 4000000 in
set_option maxRecDepth 100000 in
theorem idx37_calls (A : Option Addr) (c : Nat) (l : List At) (cap : Value) (P : At → Bool) (w : World) (hC : Kd.C kAt w A l.length l) (hP : ∀ x ∈ l, ∀ w1, Below w.heap.size w w1 → Calls Tryd.prog 37 #[atV x, cap] w1 fun e w' => e = .returned (.bool (P x)) ∧ Below w1.heap.size w1 w') :
    Calls Tryd.prog 46 #[.slice A l.length c, .func (.func 37) #[] #[cap]] w fun e w' => ∃ i : Int, e = .returned (.int .i64 i) ∧ decide (0 ≤ i) = l.any P ∧ Below w.heap.size w w' := by
  have hmax : l.length ≤ 9223372036854775807 := hC.2.1
  have HC := Aside0.mk hC
  have HP := Aside0.mk hP
  clear hC hP
  go_enter Tryd.func46, Tryd.ntmps46
  go_wp2_with fail
  go_loopw [8] (fun i wr => ∃ k : Nat, k ≤ l.length ∧ i = .int .i64 k ∧ Aside0 ((l.take k).any P = false) ∧ Aside0 (Below w.heap.size w wr))
    (fun i _ => l.length - (RowKit.intOf i).toNat)
  case atStart => exact ⟨0, Nat.zero_le _, rfl, ⟨rfl⟩, ⟨Below.refl _ _⟩⟩
  case round =>
    obtain ⟨k, hk, rfl, HA, HB⟩ := hrel
    by_cases hlt : k < l.length
    · obtain ⟨ad, rfl, h0, h1, h2, h3, h4, h5⟩ := at_At HC.out (k : Int) (by omega) (by omega)
      simp only [Int.toNat_natCast] at h0 h1 h2 h3 h4 h5
      replace h0 := cellB' HB.out h0
      replace h1 := cellB' HB.out h1
      replace h2 := cellB' HB.out h2
      replace h3 := cellB' HB.out h3
      replace h4 := cellB' HB.out h4
      replace h5 := cellB' HB.out h5
      have hx : Aside0 (rd_At l k = l[k]) := ⟨by simp [rd_At, hlt]⟩
      have HQ := Aside0.mk (HP.out l[k] (List.getElem_mem hlt) wr HB.out)
      have HT := Aside0.mk (any_take P l k hlt)
      have HE := Aside0.mk (any_at P l k hlt)
      rw [← hx.out] at HQ HT HE
      obtain ⟨x, hxx⟩ : ∃ x, x = rd_At l k := ⟨_, rfl⟩
      rw [← hxx] at h0 h1 h2 h3 h4 h5 HQ HT HE
      clear hx hxx
      unfold atV nodeV at HQ
      go_wp2_with fail
      refine HQ.out.mono ?_
      rintro e w1 ⟨rfl, hB1⟩
      replace hB1 := Aside0.mk (HB.out.trans (hB1.mono HB.out.size))
      clear HQ
      cases hq : P x
      · have HT1 : Aside0 ((l.take (k + 1)).any P = false) := ⟨by rw [HT.out, HA.out, hq]; rfl⟩
        clear hq HT HE
        go_wp2_with fail
        go_roundw
        case rel => exact ⟨k + 1, by omega, by go_num, HT1, hB1⟩
        case measure => simp [RowKit.intOf]; omega
      · have HT1 : Aside0 (l.any P = true) := ⟨HE.out hq⟩
        clear hq HT HE
        go_wp2_with fail
        go_ret
        exact ⟨_, rfl, by rw [HT1.out]; exact decide_eq_true (by omega), hB1.out⟩
    · obtain rfl : k = l.length := by omega
      go_wp2_with fail
      go_ret
      exact ⟨_, rfl, by have := HA.out; rw [List.take_length] at this; rw [this]; rfl, HB.out⟩

set_option maxHeartbeats 4000000 in
set_option maxRecDepth 100000 in
theorem idx36_calls (A : Option Addr) (c : Nat) (l : List At) (cap : Value) (P : At → Bool) (w : World) (hC : Kd.C kAt w A l.length l) (hP : ∀ x ∈ l, ∀ w1, Below w.heap.size w w1 → Calls Tryd.prog 36 #[atV x, cap] w1 fun e w' => e = .returned (.bool (P x)) ∧ Below w1.heap.size w1 w') :
    Calls Tryd.prog 46 #[.slice A l.length c, .func (.func 36) #[] #[cap]] w fun e w' => ∃ i : Int, e = .returned (.int .i64 i) ∧ decide (0 ≤ i) = l.any P ∧ Below w.heap.size w w' := by
  have hmax : l.length ≤ 9223372036854775807 := hC.2.1
  have HC := Aside0.mk hC
  have HP := Aside0.mk hP
  clear hC hP
  go_enter Tryd.func46, Tryd.ntmps46
  go_wp2_with fail
  go_loopw [8] (fun i wr => ∃ k : Nat, k ≤ l.length ∧ i = .int .i64 k ∧ Aside0 ((l.take k).any P = false) ∧ Aside0 (Below w.heap.size w wr))
    (fun i _ => l.length - (RowKit.intOf i).toNat)
  case atStart => exact ⟨0, Nat.zero_le _, rfl, ⟨rfl⟩, ⟨Below.refl _ _⟩⟩
  case round =>
    obtain ⟨k, hk, rfl, HA, HB⟩ := hrel
    by_cases hlt : k < l.length
    · obtain ⟨ad, rfl, h0, h1, h2, h3, h4, h5⟩ := at_At HC.out (k : Int) (by omega) (by omega)
      simp only [Int.toNat_natCast] at h0 h1 h2 h3 h4 h5
      replace h0 := cellB' HB.out h0
      replace h1 := cellB' HB.out h1
      replace h2 := cellB' HB.out h2
      replace h3 := cellB' HB.out h3
      replace h4 := cellB' HB.out h4
      replace h5 := cellB' HB.out h5
      have hx : Aside0 (rd_At l k = l[k]) := ⟨by simp [rd_At, hlt]⟩
      have HQ := Aside0.mk (HP.out l[k] (List.getElem_mem hlt) wr HB.out)
      have HT := Aside0.mk (any_take P l k hlt)
      have HE := Aside0.mk (any_at P l k hlt)
      rw [← hx.out] at HQ HT HE
      obtain ⟨x, hxx⟩ : ∃ x, x = rd_At l k := ⟨_, rfl⟩
      rw [← hxx] at h0 h1 h2 h3 h4 h5 HQ HT HE
      clear hx hxx
      unfold atV nodeV at HQ
      go_wp2_with fail
      refine HQ.out.mono ?_
      rintro e w1 ⟨rfl, hB1⟩
      replace hB1 := Aside0.mk (HB.out.trans (hB1.mono HB.out.size))
      clear HQ
      cases hq : P x
      · have HT1 : Aside0 ((l.take (k + 1)).any P = false) := ⟨by rw [HT.out, HA.out, hq]; rfl⟩
        clear hq HT HE
        go_wp2_with fail
        go_roundw
        case rel => exact ⟨k + 1, by omega, by go_num, HT1, hB1⟩
        case measure => simp [RowKit.intOf]; omega
      · have HT1 : Aside0 (l.any P = true) := ⟨HE.out hq⟩
        clear hq HT HE
        go_wp2_with fail
        go_ret
        exact ⟨_, rfl, by rw [HT1.out]; exact decide_eq_true (by omega), hB1.out⟩
    · obtain rfl : k = l.length := by omega
      go_wp2_with fail
      go_ret
      exact ⟨_, rfl, by have := HA.out; rw [List.take_length] at this; rw [this]; rfl, HB.out⟩

set_option maxHeartbeats 4000000 in
set_option maxRecDepth 100000 in
theorem idx23_calls (A : Option Addr) (c : Nat) (l : List (List At)) (P : (List At) → Bool) (w : World) (hC : Kd.C kRow w A l.length l) (hP : ∀ x ∈ l, ∀ w1 A1 c1, Below w.heap.size w w1 → Kd.C kAt w1 A1 x.length x → x.length ≤ c1 → Calls Tryd.prog 23 #[.slice A1 x.length c1] w1 fun e w' => e = .returned (.bool (P x)) ∧ Below w1.heap.size w1 w') :
    Calls Tryd.prog 32 #[.slice A l.length c, .func (.func 23) #[] #[]] w fun e w' => ∃ i : Int, e = .returned (.int .i64 i) ∧ decide (0 ≤ i) = l.any P ∧ Below w.heap.size w w' := by
  have hmax : l.length ≤ 9223372036854775807 := hC.2.1
  have HC := Aside0.mk hC
  have HP := Aside0.mk hP
  clear hC hP
  go_enter Tryd.func32, Tryd.ntmps32
  go_wp2_with fail
  go_loopw [8] (fun i wr => ∃ k : Nat, k ≤ l.length ∧ i = .int .i64 k ∧ Aside0 ((l.take k).any P = false) ∧ Aside0 (Below w.heap.size w wr))
    (fun i _ => l.length - (RowKit.intOf i).toNat)
  case atStart => exact ⟨0, Nat.zero_le _, rfl, ⟨rfl⟩, ⟨Below.refl _ _⟩⟩
  case round =>
    obtain ⟨k, hk, rfl, HA, HB⟩ := hrel
    by_cases hlt : k < l.length
    · obtain ⟨ad, A1, c1, rfl, h0, h1, h2⟩ := at_Row HC.out (k : Int) (by omega) (by omega)
      simp only [Int.toNat_natCast] at h0
      replace h0 := cellB' HB.out h0
      replace h1 := Aside0.mk h1
      replace h2 := Aside0.mk (Kd.C_below h2 HB.out)
      have hx : Aside0 (rd_Row l k = l[k]) := ⟨by simp [rd_Row, hlt]⟩
      have HQ : Aside0 (∀ A1 c1, Kd.C kAt wr A1 l[k].length l[k] → l[k].length ≤ c1 → _) := ⟨fun A1 c1 h h' => HP.out l[k] (List.getElem_mem hlt) wr A1 c1 HB.out h h'⟩
      have HT := Aside0.mk (any_take P l k hlt)
      have HE := Aside0.mk (any_at P l k hlt)
      rw [← hx.out] at HQ HT HE
      obtain ⟨x, hxx⟩ : ∃ x, x = rd_Row l k := ⟨_, rfl⟩
      rw [← hxx] at h0 h1 h2 HQ HT HE
      replace HQ := Aside0.mk (HQ.out A1 c1 h2.out h1.out)
      clear hx hxx
      go_wp2_with fail
      refine HQ.out.mono ?_
      rintro e w1 ⟨rfl, hB1⟩
      replace hB1 := Aside0.mk (HB.out.trans (hB1.mono HB.out.size))
      clear HQ
      cases hq : P x
      · have HT1 : Aside0 ((l.take (k + 1)).any P = false) := ⟨by rw [HT.out, HA.out, hq]; rfl⟩
        clear hq HT HE
        go_wp2_with fail
        go_roundw
        case rel => exact ⟨k + 1, by omega, by go_num, HT1, hB1⟩
        case measure => simp [RowKit.intOf]; omega
      · have HT1 : Aside0 (l.any P = true) := ⟨HE.out hq⟩
        clear hq HT HE
        go_wp2_with fail
        go_ret
        exact ⟨_, rfl, by rw [HT1.out]; exact decide_eq_true (by omega), hB1.out⟩
    · obtain rfl : k = l.length := by omega
      go_wp2_with fail
      go_ret
      exact ⟨_, rfl, by have := HA.out; rw [List.take_length] at this; rw [this]; rfl, HB.out⟩

set_option maxHeartbeats 4000000 in
set_option maxRecDepth 100000 in
theorem has37_calls (A : Option Addr) (c : Nat) (l : List At) (cap : Value) (P : At → Bool) (w : World) (hC : Kd.C kAt w A l.length l) (hP : ∀ x ∈ l, ∀ w1, Below w.heap.size w w1 → Calls Tryd.prog 37 #[atV x, cap] w1 fun e w' => e = .returned (.bool (P x)) ∧ Below w1.heap.size w1 w') :
    Calls Tryd.prog 35 #[.slice A l.length c, .func (.func 37) #[] #[cap]] w fun e w' => e = .returned (.bool (l.any P)) ∧ Below w.heap.size w w' := by
  have HI := Aside0.mk (idx37_calls A c l cap P w hC hP)
  clear hC hP
  go_enter Tryd.func35, Tryd.ntmps35
  go_wp2_with fail
  refine HI.out.mono ?_
  rintro e w1 ⟨i, rfl, hi, hB⟩
  replace hi := Aside0.mk hi
  replace hB := Aside0.mk hB
  go_wp2_with fail
  go_ret
  exact ⟨by rw [hi.out]; rfl, hB.out⟩

set_option maxHeartbeats 4000000 in
set_option maxRecDepth 100000 in
theorem has36_calls (A : Option Addr) (c : Nat) (l : List At) (cap : Value) (P : At → Bool) (w : World) (hC : Kd.C kAt w A l.length l) (hP : ∀ x ∈ l, ∀ w1, Below w.heap.size w w1 → Calls Tryd.prog 36 #[atV x, cap] w1 fun e w' => e = .returned (.bool (P x)) ∧ Below w1.heap.size w1 w') :
    Calls Tryd.prog 35 #[.slice A l.length c, .func (.func 36) #[] #[cap]] w fun e w' => e = .returned (.bool (l.any P)) ∧ Below w.heap.size w w' := by
  have HI := Aside0.mk (idx36_calls A c l cap P w hC hP)
  clear hC hP
  go_enter Tryd.func35, Tryd.ntmps35
  go_wp2_with fail
  refine HI.out.mono ?_
  rintro e w1 ⟨i, rfl, hi, hB⟩
  replace hi := Aside0.mk hi
  replace hB := Aside0.mk hB
  go_wp2_with fail
  go_ret
  exact ⟨by rw [hi.out]; rfl, hB.out⟩

set_option maxHeartbeats 4000000 in
set_option maxRecDepth 100000 in
theorem has23_calls (A : Option Addr) (c : Nat) (l : List (List At)) (P : (List At) → Bool) (w : World) (hC : Kd.C kRow w A l.length l) (hP : ∀ x ∈ l, ∀ w1 A1 c1, Below w.heap.size w w1 → Kd.C kAt w1 A1 x.length x → x.length ≤ c1 → Calls Tryd.prog 23 #[.slice A1 x.length c1] w1 fun e w' => e = .returned (.bool (P x)) ∧ Below w1.heap.size w1 w') :
    Calls Tryd.prog 21 #[.slice A l.length c, .func (.func 23) #[] #[]] w fun e w' => e = .returned (.bool (l.any P)) ∧ Below w.heap.size w w' := by
  have HI := Aside0.mk (idx23_calls A c l  P w hC hP)
  clear hC hP
  go_enter Tryd.func21, Tryd.ntmps21
  go_wp2_with fail
  refine HI.out.mono ?_
  rintro e w1 ⟨i, rfl, hi, hB⟩
  replace hi := Aside0.mk hi
  replace hB := Aside0.mk hB
  go_wp2_with fail
  go_ret
  exact ⟨by rw [hi.out]; rfl, hB.out⟩

/-- Does a row of atoms clash? -/
noncomputable def clashL (l : List At) : Bool := l.any fun a => l.any fun b => apartP a.c b.c
def Short (l : List At) : Prop := ∀ x ∈ l, x.c.t.size ≤ 1000
theorem box_cell {w : World} {g : Nat} {v : Value} {t : TypeId} (h : w.heap[g]? = some (.cells #[v] t (0, 0))) : w.cell? ⟨g, 0, none⟩ = some v := (blk_cell h 0).trans rfl
set_option maxHeartbeats 4000000 in
set_option maxRecDepth 100000 in
/-- The inner closure: 'apart(a, b)', a in a block of its own. -/
theorem inner_calls (a b : At) (g : Nat) (w : World) (hg : Glob w) (ha : Box24 w g a.c a.p a.l) (hs : a.c.t.size ≤ 1000) :
    Calls Tryd.prog 37 #[atV b, .pointer (some ⟨g, 0, none⟩)] w fun e w' => e = .returned (.bool (apartP a.c b.c)) ∧ Below w.heap.size w w' := by
  have HG := Aside0.mk hg
  have B1 : Aside0 (Below w.heap.size w (w.alloc (.cells (nodeC b.c b.p b.l) 24))) := ⟨(Below.refl _ _).alloc (Nat.le_refl _) _⟩
  have c0 := ha.c0
  have c1 := ha.c1
  have c2 := ha.c2
  have c3 := ha.c3
  have c4 := ha.c4
  have c5 := ha.c5
  have HV := Aside0.mk (apart_calls a.c b.c a.p b.p a.l b.l _ (HG.out.below B1.out) hs)
  have hlt := blk_lt ha
  unfold nodeV nodeC at HV
  unfold nodeC at B1
  unfold atV nodeV
  clear hg ha
  go_enter Tryd.func37, Tryd.ntmps37
  go_wp2_with fail
  refine HV.out.mono ?_
  rintro e w1 ⟨rfl, hB⟩
  replace hB := Aside0.mk (B1.out.trans (hB.mono B1.out.size))
  go_wp2_with fail
  go_ret
  exact ⟨rfl, hB.out⟩
set_option maxHeartbeats 4000000 in
set_option maxRecDepth 100000 in
/-- The outer closure: is one of the row apart from a? -/
theorem outer_calls (a : At) (A : Option Addr) (c : Nat) (l : List At) (g : Nat) (w : World) (hg : Glob w) (hC : Kd.C kAt w A l.length l) (hb : w.heap[g]? = some (.cells #[.slice A l.length c] 22 (0, 0))) (hs : a.c.t.size ≤ 1000) :
    Calls Tryd.prog 36 #[atV a, .pointer (some ⟨g, 0, none⟩)] w fun e w' => e = .returned (.bool (l.any fun b => apartP a.c b.c)) ∧ Below w.heap.size w w' := by
  have HG := Aside0.mk hg
  have B1 : Aside0 (Below w.heap.size w (w.alloc (.cells (nodeC a.c a.p a.l) 24))) := ⟨(Below.refl _ _).alloc (Nat.le_refl _) _⟩
  have HA : Aside0 (Box24 (w.alloc (.cells (nodeC a.c a.p a.l) 24)) w.heap.size a.c a.p a.l) := ⟨heap_alloc_new w _⟩
  have c0 := box_cell hb
  have HV := Aside0.mk (has37_calls A c l (.pointer (some ⟨w.heap.size, 0, none⟩)) (fun b => apartP a.c b.c) _ (Kd.C_below hC B1.out) (fun b _ w1 hw1 => inner_calls a b w.heap.size w1 (HG.out.below (B1.out.trans (hw1.mono B1.out.size))) (HA.out.below hw1) hs))
  have hlt := blk_lt hb
  unfold nodeC at HV B1
  unfold atV nodeV
  clear hg hC hb HA
  go_enter Tryd.func36, Tryd.ntmps36
  go_wp2_with fail
  refine HV.out.mono ?_
  rintro e w1 ⟨rfl, hB⟩
  replace hB := Aside0.mk (B1.out.trans (hB.mono B1.out.size))
  go_wp2_with fail
  go_ret
  exact ⟨rfl, hB.out⟩
set_option maxHeartbeats 4000000 in
set_option maxRecDepth 100000 in
theorem clashes_calls (A : Option Addr) (c : Nat) (l : List At) (w : World) (hg : Glob w) (hC : Kd.C kAt w A l.length l) (hs : Short l) :
    Calls Tryd.prog 24 #[.slice A l.length c] w fun e w' => e = .returned (.bool (clashL l)) ∧ Below w.heap.size w w' := by
  have HG := Aside0.mk hg
  have B1 : Aside0 (Below w.heap.size w (w.alloc (.cells #[.slice A l.length c] 22))) := ⟨(Below.refl _ _).alloc (Nat.le_refl _) _⟩
  have HA : Aside0 ((w.alloc (.cells #[.slice A l.length c] 22)).heap[w.heap.size]? = some (.cells #[.slice A l.length c] 22 (0, 0))) := ⟨heap_alloc_new w _⟩
  have HV := Aside0.mk (has36_calls A c l (.pointer (some ⟨w.heap.size, 0, none⟩)) (fun a => l.any fun b => apartP a.c b.c) _ (Kd.C_below hC B1.out) (fun a ha w1 hw1 => outer_calls a A c l w.heap.size w1 (HG.out.below (B1.out.trans (hw1.mono B1.out.size))) (Kd.C_below hC (B1.out.trans (hw1.mono B1.out.size))) ((hw1.block _ (by simp)).trans HA.out) (hs a ha)))
  clear hg hC HA
  unfold clashL
  go_enter Tryd.func24, Tryd.ntmps24
  go_wp2_with fail
  refine HV.out.mono ?_
  rintro e w1 ⟨rfl, hB⟩
  replace hB := Aside0.mk (B1.out.trans (hB.mono B1.out.size))
  go_wp2_with fail
  go_ret
  exact ⟨rfl, hB.out⟩
set_option maxHeartbeats 4000000 in
set_option maxRecDepth 100000 in
theorem notClash_calls (A : Option Addr) (c : Nat) (l : List At) (w : World) (hg : Glob w) (hC : Kd.C kAt w A l.length l) (hs : Short l) :
    Calls Tryd.prog 23 #[.slice A l.length c] w fun e w' => e = .returned (.bool (!clashL l)) ∧ Below w.heap.size w w' := by
  have HV := Aside0.mk (clashes_calls A c l w hg hC hs)
  clear hg hC hs
  go_enter Tryd.func23, Tryd.ntmps23
  go_wp2_with fail
  refine HV.out.mono ?_
  rintro e w1 ⟨rfl, hB⟩
  replace hB := Aside0.mk hB
  go_wp2_with fail
  go_ret
  exact ⟨rfl, hB.out⟩
/-- Is there a row that doesn't clash? -/
theorem some_calls (A : Option Addr) (c : Nat) (l : List (List At)) (w : World) (hg : Glob w) (hC : Kd.C kRow w A l.length l) (hs : ∀ x ∈ l, Short x) :
    Calls Tryd.prog 21 #[.slice A l.length c, .func (.func 23) #[] #[]] w fun e w' => e = .returned (.bool (l.any fun x => !clashL x)) ∧ Below w.heap.size w w' :=
  has23_calls A c l (fun x => !clashL x) w hC (fun x hx w1 A1 c1 hw1 h1 _ => notClash_calls A1 c1 x w1 (hg.below hw1) h1 (hs x hx))
end Go.Proofs.YtlgcceojnbobeaaDoor.A

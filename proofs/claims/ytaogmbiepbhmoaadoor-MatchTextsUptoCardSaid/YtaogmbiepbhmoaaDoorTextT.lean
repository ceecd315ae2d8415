/- match.Text: the posts' text. -/
import Derived.Test.YtaogmbiepbhmoaaDoorBuilder
import Derived.Test.YtaogmbiepbhmoaaDoorAx3
import Derived.WalkSmall
import Derived.Lib.AppendIntMem
import Derived.Deep.QuietTactic
import Derived.BigQuiet
namespace Go.Proofs.YtaogmbiepbhmoaaDoor.A
open Go.RowKit Go.Shelf Go.Lib ScKit Go.Proofs.YtaogmbiepbhmoaaDoorW.PrintWords Go.Proofs.YtaogmbiepbhmoaaDoorW.PrintLast Go.Proofs.YtaogmbiepbhmoaaDoorW.PrintMore
set_option linter.unusedVariables false
set_option linter.unusedSimpArgs false

/-- An entry's, a post's, posts' letters. -/
def entT (e : S46) : List UInt8 := 32 :: (e.f0.data.toList ++ 47 :: (e.f1.data.toList ++ 47 :: itoa e.f2))
def postT (p : S29) : List UInt8 := itoa p.f0 ++ (p.f2.flatMap entT ++ 32 :: (p.f1.data.toList ++ [10]))
def textT (l : List S29) : List UInt8 := l.flatMap postT
/-- Numbers in their kinds, and short in all. -/
def WfT (l : List S29) : Prop := (∀ p ∈ l, (Lit.int .i64 p.f0).wf = true ∧ ∀ e ∈ p.f2, (Lit.int .i64 e.f2).wf = true) ∧ (textT l).length ≤ 1000000000
theorem wf_i64 {n : Int} (h : (Lit.int .i64 n).wf = true) : -9223372036854775808 ≤ n ∧ n ≤ 9223372036854775807 := by
  have e1 : IntKind.i64.min = -9223372036854775808 := rfl
  have e2 : IntKind.i64.max = 9223372036854775807 := rfl
  simp only [Lit.wf, e1, e2, Bool.and_eq_true, decide_eq_true_eq] at h
  exact h
theorem flat_take {α : Type} (f : α → List UInt8) (l : List α) (k : Nat) (h : k < l.length) : (l.take (k + 1)).flatMap f = (l.take k).flatMap f ++ f l[k] := by
  rw [List.take_succ_eq_append_getElem h, List.flatMap_append, List.flatMap_cons, List.flatMap_nil, List.append_nil]
theorem flat_le {α : Type} (f : α → List UInt8) (l : List α) (k : Nat) : ((l.take k).flatMap f).length ≤ (l.flatMap f).length := by
  have h : l.flatMap f = (l.take k).flatMap f ++ (l.drop k).flatMap f := by rw [← List.flatMap_append, List.take_append_drop]
  rw [h, List.length_append]; omega
theorem tx_lit1 : (⟨#[32]⟩ : ByteArray) = tx [32] := rfl
/-- A post in a block of its own. -/
def Three29 (w : World) (g : Nat) (p : S29) (A : Option Addr) (c : Nat) : Prop := w.heap[g]? = some (.cells #[.int .i64 p.f0, .string p.f1, .slice A p.f2.length c] 29 (0, 0))
theorem Three29.below {w w' : World} {g : Nat} {p : S29} {A : Option Addr} {c : Nat} (h : Three29 w g p A c) (hb : Below w.heap.size w w') : Three29 w' g p A c := (hb.block g (blk_lt h)).trans h
theorem Three29.kept {w w' : World} {g b : Nat} {p : S29} {A : Option Addr} {c : Nat} (h : Three29 w g p A c) (hk : OthersKept 5 (some b) w w') (hne : g ≠ b) : Three29 w' g p A c :=
  hk g _ h (fun e => hne (by injection e)) (fun c fz e => by injection e with _ e; cases e)
/-- An entry in a block of its own. -/
def Three46 (w : World) (g : Nat) (x : S46) : Prop := w.heap[g]? = some (.cells #[.string x.f0, .string x.f1, .int .i64 x.f2] 46 (0, 0))
theorem Three46.below {w w' : World} {g : Nat} {x : S46} (h : Three46 w g x) (hb : Below w.heap.size w w') : Three46 w' g x := (hb.block g (blk_lt h)).trans h
theorem Three46.kept {w w' : World} {g b : Nat} {x : S46} (h : Three46 w g x) (hk : OthersKept 5 (some b) w w') (hne : g ≠ b) : Three46 w' g x :=
  hk g _ h (fun e => hne (by injection e)) (fun c fz e => by injection e with _ e; cases e)
theorem tl_size (s : ByteArray) : s.data.toList.length = s.size := Array.length_toList
theorem post_len (p : S29) : (postT p).length = (itoa p.f0).length + ((p.f2.flatMap entT).length + (p.f1.size + 2)) := by
  have := tl_size p.f1
  simp only [postT, List.length_append, List.length_cons, List.length_nil]
  omega
theorem ent_len (x : S46) : (entT x).length = x.f0.size + x.f1.size + (itoa x.f2).length + 3 := by
  have h1 := tl_size x.f0
  have h2 := tl_size x.f1
  simp only [entT, List.length_append, List.length_cons]
  omega
theorem Three46.c0 {w : World} {g : Nat} {x : S46} (h : Three46 w g x) : w.cell? ⟨g, 0, none⟩ = some (.string x.f0) := (box3 h).1
theorem Three46.c1 {w : World} {g : Nat} {x : S46} (h : Three46 w g x) : w.cell? ⟨g, 1, none⟩ = some (.string x.f1) := (box3 h).2.1
theorem Three46.c2 {w : World} {g : Nat} {x : S46} (h : Three46 w g x) : w.cell? ⟨g, 2, none⟩ = some (.int .i64 x.f2) := (box3 h).2.2.1
theorem ent_room {tA : List UInt8} {l : List S46} {m n : Nat} {x : S46} (h1 : tA.length + ((l.flatMap entT).length + (n + 2)) ≤ 1000000000) (h2 : ((l.take m).flatMap entT).length + (x.f0.size + x.f1.size + (itoa x.f2).length + 3) ≤ (l.flatMap entT).length) :
    (byteCells (tA ++ (l.take m).flatMap entT)).length + ((((((⟨#[32]⟩ : ByteArray) ++ x.f0) ++ (⟨#[47]⟩ : ByteArray)) ++ x.f1) ++ (⟨#[47]⟩ : ByteArray)) ++ tx (itoa x.f2)).size ≤ 140737488355328 := by
  rw [byteCells_length, List.length_append]
  simp only [ByteArray.size_append, tx_size, show (⟨#[32]⟩ : ByteArray).size = 1 from rfl, show (⟨#[47]⟩ : ByteArray).size = 1 from rfl]
  omega
theorem tail_room {tA : List UInt8} {l : List S46} {s : ByteArray} (h1 : tA.length + ((l.flatMap entT).length + (s.size + 2)) ≤ 1000000000) :
    (byteCells (tA ++ l.flatMap entT)).length + (((⟨#[32]⟩ : ByteArray) ++ s) ++ (⟨#[10]⟩ : ByteArray)).size ≤ 140737488355328 := by
  rw [byteCells_length, List.length_append]
  simp only [ByteArray.size_append, show (⟨#[32]⟩ : ByteArray).size = 1 from rfl, show (⟨#[10]⟩ : ByteArray).size = 1 from rfl]
  omega
theorem ent_tx (x : S46) : strCells (((((⟨#[32]⟩ : ByteArray) ++ x.f0) ++ (⟨#[47]⟩ : ByteArray)) ++ x.f1) ++ (⟨#[47]⟩ : ByteArray) ++ tx (itoa x.f2)) = byteCells (entT x) := by
  rw [strCells_eq]; congr 1; simp [entT, tx]
theorem tail_tx (p : S29) : strCells (((⟨#[32]⟩ : ByteArray) ++ p.f1) ++ (⟨#[10]⟩ : ByteArray)) = byteCells (32 :: (p.f1.data.toList ++ [10])) := by
  rw [strCells_eq]; congr 1
theorem str_cells (l : List UInt8) : strCells (tx l) = byteCells l := rfl
def matchText.T9 : Bool × List (List Nat × List Nat) := (true, [([], []), ([0], [0]), ([1], [1]), ([2], [2]), ([], []), ([4], [4]), ([3, 5], [3, 5]), ([6], [6]), ([], []), ([8], [8]), ([9], [9]), ([7, 10], [7, 10]), ([11, 10], [11])])
def matchText.B9 : List Nat := [0, 1, 3, 7, 0, 16, 63, 127, 0, 256, 768, 2047, 4095]
theorem matchText.tab9 : rtab .any (opsOf Tryd.f6 9) = matchText.T9 := by kernel_rfl
theorem matchText.bits9 : waitsOk matchText.T9.2 matchText.B9 = true := by kernel_rfl

set_option maxHeartbeats 8000000 in
set_option maxRecDepth 100000 in
theorem text_calls (A0 : Option Addr) (c0 : Nat) (l : List S29) (w : World) (hr : Kd.C k29 w A0 l.length l) (hc : l.length ≤ c0) (hw : WfT l) (hT : TabBelow Tryd.prog w.heap.size w "internal/strconv.uint64pow10" .u64 pow10Tab) :
    Calls Tryd.prog 6 #[.slice A0 l.length c0] w fun e w' => e = .returned (.string (tx (textT l))) ∧ Below w.heap.size w w' := by
  have hmax : l.length ≤ 9223372036854775807 := hr.2.1
  have HR := Aside0.mk hr
  have HW := Aside0.mk hw
  have HT := Aside0.mk hT
  clear hr hw hT
  go_enter Tryd.func6, Tryd.ntmps6
  go_wp2_with fail
  have F0 : Aside0 (IsBuilderF 39 5 w.heap.size w.heap.size (byteCells (textT (l.take 0))) (w.alloc (.cells #[.pointer none, .slice none 0 0] 39))) := ⟨IsBuilderF.of (fresh_isBuilder 39 5 w)⟩
  have B0 : Aside0 (Below w.heap.size w (w.alloc (.cells #[.pointer none, .slice none 0 0] 39))) := ⟨(Below.refl _ _).alloc (Nat.le_refl _) _⟩
  go_loopw [10] (fun i wr => ∃ k : Nat, k ≤ l.length ∧ i = .int .i64 k ∧ Aside0 (IsBuilderF 39 5 w.heap.size w.heap.size (byteCells (textT (l.take k))) wr) ∧ Aside0 (Below w.heap.size w wr))
    (fun i _ => l.length - (intOf i).toNat)
  case atStart => exact ⟨0, Nat.zero_le _, rfl, F0, B0⟩
  case round =>
    obtain ⟨k, hk, rfl, HF, HB⟩ := hrel
    obtain ⟨wo, rfl⟩ : ∃ wo : World, wo = wr := ⟨_, rfl⟩
    by_cases hlt : k < l.length
    · obtain ⟨ad, A2, c2, rfl, h0, h1, h2, h3, h4⟩ := at_T29 HR.out (k : Int) (by omega) (by omega)
      simp only [Int.toNat_natCast] at h0 h1 h2
      replace h0 := cellB HB.out h0
      replace h1 := cellB HB.out h1
      replace h2 := cellB HB.out h2
      replace h3 := Aside0.mk h3
      replace h4 := Aside0.mk h4
      have hpk : Aside0 (rd_T29 l k = l[k]) := ⟨by simp [rd_T29, hlt]⟩
      have hwf := Aside0.mk (HW.out.1 _ (List.getElem_mem hlt))
      have hsz := Aside0.mk (Nat.le_trans (flat_le postT l (k + 1)) HW.out.2)
      have htk := Aside0.mk (flat_take postT l k hlt)
      rw [htk.out] at hsz
      rw [← hpk.out] at hwf hsz htk
      obtain ⟨p, hp⟩ : ∃ p, p = rd_T29 l k := ⟨_, rfl⟩
      rw [← hp] at h0 h1 h2 h3 h4 hwf hsz htk
      have hR : Aside0 ((textT (l.take k)).length + ((itoa p.f0).length + ((p.f2.flatMap entT).length + (p.f1.size + 2))) ≤ 1000000000) := ⟨by have h := hsz.out; rw [List.length_append, post_len] at h; exact h⟩
      have htk2 : Aside0 (textT (l.take (k + 1)) = textT (l.take k) ++ postT p) := ⟨htk.out⟩
      have hlt2 : Aside0 (w.heap.size < wo.heap.size) := ⟨HF.out.elim (fun h => h.lt) (fun h => h.lt)⟩
      clear hp hpk hsz htk
      have HA : Aside0 (Three29 (wo.alloc (.cells #[.int .i64 p.f0, .string p.f1, .slice A2 p.f2.length c2] 29)) wo.heap.size p A2 c2) := ⟨heap_alloc_new wo _⟩
      have HB1 : Aside0 (Below w.heap.size w (wo.alloc (.cells #[.int .i64 p.f0, .string p.f1, .slice A2 p.f2.length c2] 29))) := ⟨HB.out.alloc HB.out.size _⟩
      have HF1 : Aside0 (IsBuilderF 39 5 w.heap.size w.heap.size (byteCells (textT (l.take k))) (wo.alloc (.cells #[.int .i64 p.f0, .string p.f1, .slice A2 p.f2.length c2] 29))) := ⟨HF.out.below (below_alloc (Below.refl _ _) _)⟩
      go_wp2_with fail
      refine (itoa_calls p.f0 (wf_i64 hwf.out.1) _ (HT.out _ HB1.out)).mono ?_
      rintro e w2 ⟨rfl, hB2⟩
      have HA2 : Aside0 (Three29 w2 wo.heap.size p A2 c2) := ⟨HA.out.below hB2⟩
      have HF2 := Aside0.mk (HF1.out.below hB2)
      have HB2 := Aside0.mk (HB1.out.trans (hB2.mono HB1.out.size))
      clear hB2 HA HB1 HF1 HF HB h0 h1 h2
      go_wp2_with fail
      refine (write_calls w.heap.size w.heap.size _ _ _ HF2.out (by rw [byteCells_length, tx_size]; have := hR.out; omega) HB2.out.size).mono ?_
      rintro e w3 ⟨rfl, hF3, hB3, hK3⟩
      have HA3 : Aside0 (Three29 w3 wo.heap.size p A2 c2) := ⟨HA2.out.kept hK3 (Nat.ne_of_gt hlt2.out)⟩
      rw [str_cells, ← byteCells_append] at hF3
      have HF3 := Aside0.mk hF3
      have HB3 := Aside0.mk (HB2.out.trans hB3)
      clear hF3 hB3 hK3 HA2 HB2 HF2
      obtain ⟨tA, htA⟩ : ∃ t, t = textT (l.take k) ++ itoa p.f0 := ⟨_, rfl⟩
      have hRA : Aside0 (tA.length + ((p.f2.flatMap entT).length + (p.f1.size + 2)) ≤ 1000000000) := ⟨by rw [htA, List.length_append]; have := hR.out; omega⟩
      rw [← htA] at HF3
      have htk3 : Aside0 (textT (l.take (k + 1)) = tA ++ (p.f2.flatMap entT ++ 32 :: (p.f1.data.toList ++ [10]))) := ⟨by rw [htk2.out, htA, postT, List.append_assoc]⟩
      clear htk2 htA hR
      obtain ⟨h0, h1, h2, f0, f1, f2⟩ := box3 HA3.out
      have HF3' : Aside0 (IsBuilderF 39 5 w.heap.size w.heap.size (byteCells (tA ++ (p.f2.take 0).flatMap entT)) w3) := ⟨by simpa using HF3.out⟩
      clear HF3
      go_wp2_with fail
      clear h0 h1 h2 f0 f1 f2
      go_loopw [21] (fun i wq => ∃ m : Nat, m ≤ p.f2.length ∧ i = .int .i64 m ∧ Aside0 (IsBuilderF 39 5 w.heap.size w.heap.size (byteCells (tA ++ (p.f2.take m).flatMap entT)) wq) ∧ Aside0 (Three29 wq wo.heap.size p A2 c2) ∧ Aside0 (Below w.heap.size w wq))
        (fun i _ => p.f2.length - (intOf i).toNat)
      case atStart => exact ⟨0, Nat.zero_le _, rfl, HF3', HA3, HB3⟩
      case round =>
        obtain ⟨m, hm, rfl, HF4, HA4, HB4⟩ := hrel
        have hmp : p.f2.length ≤ 9223372036854775807 := h4.out.2.1
        by_cases hlm : m < p.f2.length
        · obtain ⟨bd, rfl, x0, x1, x2⟩ := at_T46 h4.out (m : Int) (by omega) (by omega)
          simp only [Int.toNat_natCast] at x0 x1 x2
          replace x0 := cellB HB4.out x0
          replace x1 := cellB HB4.out x1
          replace x2 := cellB HB4.out x2
          have hxm : Aside0 (rd_T46 p.f2 m = p.f2[m]) := ⟨by simp [rd_T46, hlm]⟩
          have hwx := Aside0.mk (hwf.out.2 _ (List.getElem_mem hlm))
          have htm := Aside0.mk (flat_take entT p.f2 m hlm)
          have hszm : Aside0 (((p.f2.take m).flatMap entT).length + (entT p.f2[m]).length ≤ (p.f2.flatMap entT).length) := ⟨by have h := flat_le entT p.f2 (m + 1); rw [htm.out, List.length_append] at h; exact h⟩
          rw [← hxm.out] at hwx htm hszm
          obtain ⟨x, hx⟩ : ∃ x, x = rd_T46 p.f2 m := ⟨_, rfl⟩
          rw [← hx] at x0 x1 x2 hwx htm hszm
          rw [ent_len] at hszm
          clear hx hxm
          have h4' : Aside0 (x.f0.size + x.f1.size + (tx (itoa x.f2)).size + 3 ≤ 1000000000) := ⟨by rw [tx_size]; have := hszm.out; have := hRA.out; omega⟩
          go_wp2_with fail
          have HX : Aside0 (Three46 (wr.alloc (.cells #[.string x.f0, .string x.f1, .int .i64 x.f2] 46)) wr.heap.size x) := ⟨heap_alloc_new wr _⟩
          have HXd : Aside0 (Three46 (wr.alloc (.cells #[.string x.f0, .string x.f1, .int .i64 x.f2] 46)).drew wr.heap.size x) := ⟨HX.out⟩
          have HAd : Aside0 (Three29 (wr.alloc (.cells #[.string x.f0, .string x.f1, .int .i64 x.f2] 46)).drew wo.heap.size p (some bd) c2) := ⟨HA4.out.below ((below_alloc (Below.refl _ _) _).drew)⟩
          have HFd : Aside0 (IsBuilderF 39 5 w.heap.size w.heap.size (byteCells (tA ++ (p.f2.take m).flatMap entT)) (wr.alloc (.cells #[.string x.f0, .string x.f1, .int .i64 x.f2] 46)).drew) := ⟨HF4.out.below ((below_alloc (Below.refl _ _) _).drew)⟩
          have HBd : Aside0 (Below w.heap.size w (wr.alloc (.cells #[.string x.f0, .string x.f1, .int .i64 x.f2] 46)).drew) := ⟨(HB4.out.alloc HB4.out.size _).drew⟩
          have hgw : Aside0 (w.heap.size < wr.heap.size) := ⟨HF4.out.elim (fun h => h.lt) (fun h => h.lt)⟩
          clear HX HA4 HF4 HB4 x0 x1 x2
          have t1 : (9223372036854775807 < 1 + x.f0.size) = False := eq_false (by have := h4'.out; omega)
          have t2 : (9223372036854775807 < 1 + x.f0.size + 1) = False := eq_false (by have := h4'.out; omega)
          have t3 : (9223372036854775807 < 1 + x.f0.size + 1 + x.f1.size) = False := eq_false (by have := h4'.out; omega)
          have t4 : (9223372036854775807 < 1 + x.f0.size + 1 + x.f1.size + 1) = False := eq_false (by have := h4'.out; omega)
          have t5 : (9223372036854775807 < 1 + x.f0.size + 1 + x.f1.size + 1 + (tx (itoa x.f2)).size) = False := eq_false (by have := h4'.out; omega)
          have y0 := HXd.out.c0
          have y1 := HXd.out.c1
          have y2 := HXd.out.c2
          refine start_ (n := 13) (S := fun w' => w'.cell? ⟨wr.heap.size, 0, none⟩ = some (.string x.f0) ∧ w'.cell? ⟨wr.heap.size, 1, none⟩ = some (.string x.f1) ∧ w'.cell? ⟨wr.heap.size, 2, none⟩ = some (.int .i64 x.f2)) (ds := []) #[false, false, false, false, false, false, false, false, false, false, false, false, false] (by kernel_rfl) rfl rfl ⟨HXd.out.c0, HXd.out.c1, HXd.out.c2⟩ (fun hHeld => ?_)
          refine with_tabW matchText.tab9 matchText.bits9 (fun HT_ HW_ => ?_)
          generalize (wr.alloc (.cells #[.string x.f0, .string x.f1, .int .i64 x.f2] 46)).drew = w6 at HXd HAd HFd HBd y0 y1 y2 hHeld ⊢
          clear y0 y1 y2
          refine pure_ (i := 0) (N := some 25) (v := ?_) (a' := ?_) #[true, false, false, false, false, false, false, false, false, false, false, false, false] rfl rfl (any_of HT_.out (by kernel_rfl)) (fun _ _ _ h => h) (Or.inl ⟨by rfl, ?_⟩) ?_ ?_
          rotate_left
          · intro w'
            go_simp
            with_reducible rfl
          rotate_left
          · simp only [Act.put, List.setIfInBounds_toArray, List.set_cons_zero, List.set_cons_succ, i64_w, i32_w]
            rfl
          refine take_ (i := 1) (N := some 26) (v := ?_) (a' := ?_) #[true, true, false, false, false, false, false, false, false, false, false, false, false] rfl rfl (take_ofW HT_.out HW_.out (by kernel_rfl)) (fun _ _ _ h => h) (Or.inl ⟨by rfl, ?_⟩) hHeld ?_ ?_
          rotate_left
          · rintro w' ⟨q0, q1, q2⟩
            go_simp
            with_reducible rfl
          rotate_left
          · simp only [Act.put, List.setIfInBounds_toArray, List.set_cons_zero, List.set_cons_succ, i64_w, i32_w]
            rfl
          refine pure_ (i := 2) (N := some 27) (v := ?_) (a' := ?_) #[true, true, true, false, false, false, false, false, false, false, false, false, false] rfl rfl (any_of HT_.out (by kernel_rfl)) (fun _ _ _ h => h) (Or.inl ⟨by rfl, ?_⟩) ?_ ?_
          rotate_left
          · intro w'
            go_simp
            with_reducible rfl
          rotate_left
          · simp only [Act.put, List.setIfInBounds_toArray, List.set_cons_zero, List.set_cons_succ, i64_w, i32_w]
            rfl
          refine pure_ (i := 3) (N := some 28) (v := ?_) (a' := ?_) #[true, true, true, true, false, false, false, false, false, false, false, false, false] rfl rfl (any_of HT_.out (by kernel_rfl)) (fun _ _ _ h => h) (Or.inl ⟨by rfl, ?_⟩) ?_ ?_
          rotate_left
          · intro w'
            go_simp
            with_reducible rfl
          rotate_left
          · simp only [Act.put, List.setIfInBounds_toArray, List.set_cons_zero, List.set_cons_succ, i64_w, i32_w]
            rfl
          refine pure_ (i := 4) (N := some 29) (v := ?_) (a' := ?_) #[true, true, true, true, true, false, false, false, false, false, false, false, false] rfl rfl (any_of HT_.out (by kernel_rfl)) (fun _ _ _ h => h) (Or.inl ⟨by rfl, ?_⟩) ?_ ?_
          rotate_left
          · intro w'
            go_simp
            with_reducible rfl
          rotate_left
          · simp only [Act.put, List.setIfInBounds_toArray, List.set_cons_zero, List.set_cons_succ, i64_w, i32_w]
            rfl
          refine take_ (i := 5) (N := some 30) (v := ?_) (a' := ?_) #[true, true, true, true, true, true, false, false, false, false, false, false, false] rfl rfl (take_ofW HT_.out HW_.out (by kernel_rfl)) (fun _ _ _ h => h) (Or.inl ⟨by rfl, ?_⟩) hHeld ?_ ?_
          rotate_left
          · rintro w' ⟨q0, q1, q2⟩
            go_simp
            with_reducible rfl
          rotate_left
          · simp only [Act.put, List.setIfInBounds_toArray, List.set_cons_zero, List.set_cons_succ, i64_w, i32_w]
            rfl
          refine pure_ (i := 6) (N := some 31) (v := ?_) (a' := ?_) #[true, true, true, true, true, true, true, false, false, false, false, false, false] rfl rfl (any_of HT_.out (by kernel_rfl)) (fun _ _ _ h => h) (Or.inl ⟨by rfl, ?_⟩) ?_ ?_
          rotate_left
          · intro w'
            go_simp
            with_reducible rfl
          rotate_left
          · simp only [Act.put, List.setIfInBounds_toArray, List.set_cons_zero, List.set_cons_succ, i64_w, i32_w]
            rfl
          refine pure_ (i := 7) (N := some 32) (v := ?_) (a' := ?_) #[true, true, true, true, true, true, true, true, false, false, false, false, false] rfl rfl (any_of HT_.out (by kernel_rfl)) (fun _ _ _ h => h) (Or.inl ⟨by rfl, ?_⟩) ?_ ?_
          rotate_left
          · intro w'
            go_simp
            with_reducible rfl
          rotate_left
          · simp only [Act.put, List.setIfInBounds_toArray, List.set_cons_zero, List.set_cons_succ, i64_w, i32_w]
            rfl
          refine pure_ (i := 8) (N := some 33) (v := ?_) (a' := ?_) #[true, true, true, true, true, true, true, true, true, false, false, false, false] rfl rfl (any_of HT_.out (by kernel_rfl)) (fun _ _ _ h => h) (Or.inl ⟨by rfl, ?_⟩) ?_ ?_
          rotate_left
          · intro w'
            go_simp
            with_reducible rfl
          rotate_left
          · simp only [Act.put, List.setIfInBounds_toArray, List.set_cons_zero, List.set_cons_succ, i64_w, i32_w]
            rfl
          refine take_ (i := 9) (N := some 34) (v := ?_) (a' := ?_) #[true, true, true, true, true, true, true, true, true, true, false, false, false] rfl rfl (take_ofW HT_.out HW_.out (by kernel_rfl)) (fun _ _ _ h => h) (Or.inl ⟨by rfl, ?_⟩) hHeld ?_ ?_
          rotate_left
          · rintro w' ⟨q0, q1, q2⟩
            go_simp
            with_reducible rfl
          rotate_left
          · simp only [Act.put, List.setIfInBounds_toArray, List.set_cons_zero, List.set_cons_succ, i64_w, i32_w]
            rfl
          refine one_ (i := 10) (N := some 35) #[true, true, true, true, true, true, true, true, true, true, true, false, false] rfl rfl (one_of HT_.out (by kernel_rfl)) (by decide) (fun K hK => ?_)
          refine goes_ Tryd.func12 (by kernel_rfl) rfl #[.int .i64 x.f2, .int .i64 10] (by rfl) rfl rfl (by first | (go_simp; done) | (go_simp; rfl)) ?_
          refine (format_calls x.f2 (wf_i64 hwx.out) _ (HT.out _ HBd.out)).mono ?_
          rintro e w7 ⟨rfl, hB7⟩
          refine ⟨_, rfl, ?_⟩
          replace HXd := Aside0.mk (HXd.out.below hB7)
          replace HAd := Aside0.mk (HAd.out.below hB7)
          replace HFd := Aside0.mk (HFd.out.below hB7)
          replace HBd := Aside0.mk (HBd.out.trans (hB7.mono HBd.out.size))
          clear hB7
          refine hK.out _ _ ⟨HXd.out.c0, HXd.out.c1, HXd.out.c2⟩ (fun hHeld => ?_)
          clear hK K
          refine norm_ (a' := ?_) ?_ ?_
          rotate_left
          · show Act.put _ (some 35) _ = _
            simp only [Act.put, List.setIfInBounds_toArray, List.set_cons_zero, List.set_cons_succ, i64_w, i32_w]
            rfl
          refine pure_ (i := 11) (N := some 36) (v := ?_) (a' := ?_) #[true, true, true, true, true, true, true, true, true, true, true, true, false] rfl rfl (any_of HT_.out (by kernel_rfl)) (fun _ _ _ h => h) (Or.inl ⟨by rfl, ?_⟩) ?_ ?_
          rotate_left
          · intro w'
            go_simp
            with_reducible rfl
          rotate_left
          · simp only [Act.put, List.setIfInBounds_toArray, List.set_cons_zero, List.set_cons_succ, i64_w, i32_w]
            rfl
          refine one_ (i := 12) (N := some 37) #[true, true, true, true, true, true, true, true, true, true, true, true, true] rfl rfl (one_of HT_.out (by kernel_rfl)) (by decide) (fun K hK => ?_)
          refine goes_ Tryd.func10 (by kernel_rfl) rfl #[.pointer (some ⟨w.heap.size, 0, none⟩), .string ((((((⟨#[32]⟩ : ByteArray) ++ x.f0) ++ (⟨#[47]⟩ : ByteArray)) ++ x.f1) ++ (⟨#[47]⟩ : ByteArray)) ++ tx (itoa x.f2))] (by rfl) rfl rfl (by first | (go_simp; done) | (go_simp; rfl)) ?_
          refine (write_calls w.heap.size w.heap.size _ _ _ HFd.out (ent_room hRA.out hszm.out) HBd.out.size).mono ?_
          rintro e w8 ⟨rfl, hF8, hB8, hK8⟩
          refine ⟨_, rfl, ?_⟩
          rw [ent_tx, ← byteCells_append, List.append_assoc, ← htm.out] at hF8
          replace HFd := Aside0.mk hF8
          replace HXd := Aside0.mk (HXd.out.kept hK8 (Nat.ne_of_gt hgw.out))
          replace HAd := Aside0.mk (HAd.out.kept hK8 (Nat.ne_of_gt hlt2.out))
          replace HBd := Aside0.mk (HBd.out.trans hB8)
          clear hF8 hB8 hK8
          refine hK.out _ _ ⟨HXd.out.c0, HXd.out.c1, HXd.out.c2⟩ (fun hHeld => ?_)
          clear hK K
          refine norm_ (a' := ?_) ?_ ?_
          rotate_left
          · show Act.put _ (some 37) _ = _
            simp only [Act.put, List.setIfInBounds_toArray, List.set_cons_zero, List.set_cons_succ, i64_w, i32_w]
            rfl
          refine done_ (done_of HT_.out (by kernel_rfl)) ?_
          clear hHeld HT_ HW_ t1 t2 t3 t4 t5 hgw HXd
          go_wp2_with fail
          go_roundw
          case rel => exact ⟨m + 1, by omega, by go_num, HFd, HAd, HBd⟩
          case measure => simp [intOf]; omega
        · obtain rfl : m = p.f2.length := by omega
          rw [List.take_length] at HF4
          obtain ⟨h0, h1, h2, f0, f1, f2⟩ := box3 HA4.out
          have s1 : (9223372036854775807 < 1 + p.f1.size) = False := eq_false (by have := hRA.out; omega)
          have s2 : (9223372036854775807 < 1 + p.f1.size + 1) = False := eq_false (by have := hRA.out; omega)
          go_wp2_with fail
          refine (write_calls w.heap.size w.heap.size _ _ _ HF4.out (tail_room hRA.out) HB4.out.size).mono ?_
          rintro e w5 ⟨rfl, hF5, hB5, hK5⟩
          rw [tail_tx, ← byteCells_append, List.append_assoc, ← htk3.out] at hF5
          have HF5 := Aside0.mk hF5
          have HB5 := Aside0.mk (HB4.out.trans hB5)
          clear hF5 hB5 hK5 h0 h1 h2 f0 f1 f2 s1 s2 HA4 HB4 HF4
          go_wp2_with fail
          go_roundw
          case rel => exact ⟨k + 1, by omega, by go_num, HF5, HB5⟩
          case measure => simp [intOf]; omega
    · obtain rfl : k = l.length := by omega
      go_wp2_with fail
      refine (string_calls w.heap.size w.heap.size _ _ HF.out HB.out.size).mono ?_
      rintro e w2 ⟨rfl, hB2⟩
      rw [List.take_length]
      have HB2 := Aside0.mk (HB.out.trans hB2)
      clear hB2
      go_wp2_with fail
      go_ret
      exact ⟨rfl, HB2.out⟩
end Go.Proofs.YtaogmbiepbhmoaaDoor.A

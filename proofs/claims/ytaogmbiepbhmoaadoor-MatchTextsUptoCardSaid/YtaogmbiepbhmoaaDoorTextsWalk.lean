/- MatchTexts walked: the texts of any posts are the same. -/
import Derived.Test.YtaogmbiepbhmoaaDoorRefText
import Derived.Test.YtaogmbiepbhmoaaDoorAwake
namespace Go.Proofs.YtaogmbiepbhmoaaDoor.A
open Go.RowKit Go.Lib Go.Maps ScKit Go.Proofs.YtaogmbiepbhmoaaDoorW.PrintWords Go.Proofs.YtaogmbiepbhmoaaDoorW.PrintLast Go.Proofs.YtaogmbiepbhmoaaDoorW.PrintMore
set_option linter.unusedVariables false
set_option linter.unusedSimpArgs false

theorem rd29_at {l : List S29} {i : Nat} (h : i < l.length) : rd_T29 l (i : Int) = l[i] := by simp [rd_T29, h]
/-- Are posts few, and short? -/
def Few (l : List S29) : Prop := l.length ≤ 20 ∧ ∀ p ∈ l, p.f2.length ≤ 20 ∧ p.f1.size ≤ 300
open Classical in
theorem few_l0 (l : List S29) (hn : l.length ≤ 9223372036854775807) (d : Nat) : ∀ (k i : Nat), i + d = l.length → d < k →
    supercargolaw48_few.l0 k l (i : Int) = some (decide (l.length ≤ 20 ∧ ∀ p ∈ l.drop i, p.f2.length ≤ 20 ∧ p.f1.size ≤ 300)) := by
  induction d with
  | zero =>
    intro k i hi hk
    obtain ⟨k, rfl⟩ : ∃ m, k = m + 1 := ⟨k - 1, by omega⟩
    simp only [supercargolaw48_few.l0]
    rw [if_neg (by omega), List.drop_eq_nil_of_le (by omega)]
    congr 1
    rw [Bool.eq_iff_iff]
    simp
    omega
  | succ d ih =>
    intro k i hi hk
    obtain ⟨k, rfl⟩ : ∃ m, k = m + 1 := ⟨k - 1, by omega⟩
    simp only [supercargolaw48_few.l0]
    have hx : i < l.length := by omega
    rw [if_pos (by omega), if_pos (by omega), rd29_at hx, List.drop_eq_getElem_cons hx]
    by_cases h1 : ((l[i].f2).length : Int) > 20
    · rw [if_pos h1]
      congr 1
      refine (decide_eq_false (fun h => ?_)).symm
      have := (h.2 l[i] List.mem_cons_self).1
      omega
    · rw [if_neg h1]
      by_cases h2 : ((l[i].f1).size : Int) > 300
      · rw [if_pos h2]
        congr 1
        refine (decide_eq_false (fun h => ?_)).symm
        have := (h.2 l[i] List.mem_cons_self).2
        omega
      · rw [if_neg h2, wrap_succ (by omega) (by omega) hn]
        have := ih k (i + 1) (by omega) (by omega)
        rw [show ((i : Int) + 1) = ((i + 1 : Nat) : Int) by omega, this]
        congr 2
        simp only [List.mem_cons, forall_eq_or_imp]
        refine propext (and_congr_right fun _ => ⟨fun h => ⟨⟨by omega, by omega⟩, h⟩, fun h => h.2⟩)
open Classical in
theorem few_f (l : List S29) (hn : l.length ≤ 9223372036854775807) : supercargolaw48_few.f (l.length + 1) l = some (decide (Few l)) := by
  have := few_l0 l hn l.length (l.length + 1) 0 (by omega) (by omega)
  rw [List.drop_zero] at this
  refine Eq.trans this (congrArg some ?_)
  rw [Bool.eq_iff_iff, decide_eq_true_eq, decide_eq_true_eq]
  exact Iff.rfl


/-- What came in, under the bound. -/
def Bulk (l : List S29) : Prop := ∀ p ∈ l, (Lit.int .i64 p.f0).wf = true ∧ ∀ e ∈ p.f2, (e.f0.size ≤ 1048576 ∧ e.f1.size ≤ 1048576) ∧ (Lit.int .i64 e.f2).wf = true
theorem flat_bound {α : Type} (f : α → List UInt8) (n : Nat) : ∀ (l : List α), (∀ x ∈ l, (f x).length ≤ n) → (l.flatMap f).length ≤ l.length * n := by
  intro l
  induction l with
  | nil => intro _; simp
  | cons x l ih =>
    intro h
    rw [List.flatMap_cons, List.length_append, List.length_cons, Nat.succ_mul]
    have h1 := h x List.mem_cons_self
    have h2 := ih (fun y hy => h y (List.mem_cons_of_mem _ hy))
    omega
theorem Few.wf {l : List S29} (h : Few l) (hb : Bulk l) : WfT l := by
  refine ⟨fun p hp => ⟨(hb p hp).1, fun e he => ((hb p hp).2 e he).2⟩, ?_⟩
  have h1 : ∀ p ∈ l, (postT p).length ≤ 41944000 := by
    intro p hp
    have h3 : ∀ e ∈ p.f2, (entT e).length ≤ 2097176 := by
      intro e he
      have h4 := (hb p hp).2 e he
      have h5 := digits_len e.f2 (wf_i64 h4.2)
      rw [ent_len]
      omega
    have h6 := flat_bound entT 2097176 p.f2 h3
    have h7 := (h.2 p hp).1
    have h8 := (h.2 p hp).2
    have h9 := digits_len p.f0 (wf_i64 (hb p hp).1)
    have h10 : p.f2.length * 2097176 ≤ 20 * 2097176 := Nat.mul_le_mul_right _ h7
    rw [post_len]
    omega
  have h2 := flat_bound postT 41944000 l h1
  have h3 : l.length * 41944000 ≤ 20 * 41944000 := Nat.mul_le_mul_right _ h.1
  unfold textT
  omega

set_option maxHeartbeats 8000000 in
set_option maxRecDepth 100000 in
theorem texts_walk (A0 : Option Addr) (c0 : Nat) (l0 : List S29) (w : World) (hc0 : l0.length ≤ c0) (hC0 : Kd.C k29 w A0 l0.length l0) (hb : Bulk l0) (hT : TabBelow Tryd.prog w.heap.size w "internal/strconv.uint64pow10" .u64 pow10Tab) :
    Calls Tryd.prog 3 #[.slice A0 l0.length c0] w fun e w' => e = .returned (.bool true) ∧ Below w.heap.size w w' := by
  have hn0 : Aside0 (l0.length ≤ 9223372036854775807) := ⟨hC0.2.1⟩
  have HR0 := Aside0.mk hC0
  have HT := Aside0.mk hT
  replace hb := Aside0.mk hb
  clear hC0 hT
  by_cases hf0 : Few l0
  · have e0 : Aside0 (supercargolaw48_few.f (l0.length + 1) l0 = some true) := ⟨by rw [few_f l0 hn0.out]; simp [hf0]⟩
    have HW : Aside0 (WfT l0) := ⟨hf0.wf hb.out⟩
    have hl : Aside0 (l0.length ≤ 1000000000) := ⟨by have := hf0.1; omega⟩
    obtain ⟨kr, hkr⟩ := ref_text l0 HW.out hl.out
    replace hkr := Aside0.mk hkr
    clear hf0
    go_enter Tryd.func3, Tryd.ntmps3
    go_wp2_with fail
    refine (awake_calls _).mono ?_
    rintro e w1 ⟨rfl, hB1⟩
    replace hB1 := Aside0.mk hB1
    go_wp2_with fail
    refine (supercargolaw48_few.calls _ A0 c0 l0 _ _ (Kd.C_below HR0.out hB1.out) hc0 e0.out).mono ?_
    rintro e w2 ⟨rfl, hD2⟩
    have hB2 := Aside0.mk (hB1.out.trans (hD2.below.mono hB1.out.size))
    clear hD2 hB1
    go_wp2_with fail
    refine (text_calls A0 c0 l0 _ (Kd.C_below HR0.out hB2.out) hc0 HW.out (fun w' hw' => HT.out w' (hB2.out.trans (hw'.mono hB2.out.size)))).mono ?_
    rintro e w3 ⟨rfl, hB3⟩
    replace hB3 := Aside0.mk (hB2.out.trans (hB3.mono hB2.out.size))
    clear hB2
    go_wp2_with fail
    refine (supercargoref48_Text.calls kr A0 c0 l0 _ _ (Kd.C_below HR0.out hB3.out) hc0 hkr.out).mono ?_
    rintro e w4 ⟨rfl, hB4⟩
    replace hB4 := Aside0.mk (hB3.out.trans (hB4.mono hB3.out.size))
    clear hB3
    go_wp2_with fail
    go_ret
    exact ⟨by simp, hB4.out⟩
  · have e0 : Aside0 (supercargolaw48_few.f (l0.length + 1) l0 = some false) := ⟨by rw [few_f l0 hn0.out]; simp [hf0]⟩
    clear hf0
    go_enter Tryd.func3, Tryd.ntmps3
    go_wp2_with fail
    refine (awake_calls _).mono ?_
    rintro e w1 ⟨rfl, hB1⟩
    replace hB1 := Aside0.mk hB1
    go_wp2_with fail
    refine (supercargolaw48_few.calls _ A0 c0 l0 _ _ (Kd.C_below HR0.out hB1.out) hc0 e0.out).mono ?_
    rintro e w2 ⟨rfl, hD2⟩
    have hB2 := Aside0.mk (hB1.out.trans (hD2.below.mono hB1.out.size))
    clear hD2 hB1
    go_wp2_with fail
    refine (awake_calls _).mono ?_
    rintro e w3 ⟨rfl, hB3⟩
    replace hB3 := Aside0.mk (hB2.out.trans (hB3.mono hB2.out.size))
    clear hB2
    go_wp2_with fail
    go_ret
    exact ⟨rfl, hB3.out⟩
end Go.Proofs.YtaogmbiepbhmoaaDoor.A

/- The document's text of posts, out of the printed function: the same letters. -/
import Derived.Test.YtaogmbiepbhmoaaDoorTextT
namespace Go.Proofs.YtaogmbiepbhmoaaDoor.A
open Go.RowKit Go.Lib Go.Proofs.YtaogmbiepbhmoaaDoorW.PrintWords
set_option linter.unusedVariables false

theorem wrapNat (m : Nat) (h : m ≤ 1000000000000) : wrap64 ((m : Int) + 1) = ((m + 1 : Nat) : Int) := by unfold wrap64; omega
theorem ent_cat (s : List UInt8) (x : S46) : (((((tx s ++ (⟨#[32]⟩ : ByteArray)) ++ x.f0) ++ (⟨#[47]⟩ : ByteArray)) ++ x.f1) ++ (⟨#[47]⟩ : ByteArray)) ++ tx (itoa x.f2) = tx (s ++ entT x) := by
  apply ByteArray.ext; simp [tx, entT]
theorem tail_cat (s : List UInt8) (p : S29) : (((tx s ++ (⟨#[32]⟩ : ByteArray)) ++ p.f1) ++ (⟨#[10]⟩ : ByteArray)) = tx (s ++ 32 :: (p.f1.data.toList ++ [10])) := by
  apply ByteArray.ext; simp [tx]
theorem digits_len (n : Int) (h : -9223372036854775808 ≤ n ∧ n ≤ 9223372036854775807) : (itoa n).length ≤ 21 := itoa_length_le n h.1 h.2

/-- What the document's text is, in all: from post i on, entry j on. -/
theorem ref_inner (l : List S29) (hw : WfT l) (i : Nat) (hi : i < l.length) (hl : l.length ≤ 1000000000) (d : Nat)
    (next : ∀ s : List UInt8, s.length ≤ (textT (l.take (i + 1))).length → Ev (fun k => supercargoref48_Text.l0 k l (tx s) ((i + 1 : Nat) : Int)) (tx (s ++ (textT (l.drop (i + 1)))))) :
    ∀ (j : Nat) (s : List UInt8), j ≤ (l[i]).f2.length → (l[i]).f2.length - j = d → s.length + ((((l[i]).f2.drop j).flatMap entT).length + ((l[i]).f1.size + 2)) ≤ (textT (l.take (i + 1))).length →
      Ev (fun k => supercargoref48_Text.l1 k l (tx s) (i : Int) (j : Int)) (tx (s ++ (((l[i]).f2.drop j).flatMap entT ++ 32 :: ((l[i]).f1.data.toList ++ [10])) ++ textT (l.drop (i + 1)))) := by
  have hrd : rd_T29 l (i : Int) = l[i] := by simp [rd_T29, hi]
  have hT : (textT (l.take (i + 1))).length ≤ 1000000000 := Nat.le_trans (flat_le postT l (i + 1)) hw.2
  generalize hp : l[i] = p at hrd
  have hwp := hw.1 _ (List.getElem_mem hi)
  rw [hp] at hwp
  have hpl : p.f2.length ≤ 1000000000 := by
    have h1 : (p.f2.flatMap entT).length ≤ (textT (l.take (i + 1))).length := by
      have h := flat_take postT l i hi
      unfold textT
      rw [h, hp, List.length_append, post_len]; omega
    have h2 : p.f2.length ≤ (p.f2.flatMap entT).length := by
      generalize p.f2 = q
      induction q with
      | nil => simp
      | cons x q ih => rw [List.flatMap_cons, List.length_append, ent_len, List.length_cons]; omega
    omega
  induction d with
  | zero =>
    intro j s hj hd hs
    obtain rfl : j = p.f2.length := by omega
    rw [List.drop_length] at hs ⊢
    simp only [List.flatMap_nil, List.length_nil, List.nil_append] at hs ⊢
    have hn := next (s ++ 32 :: (p.f1.data.toList ++ [10])) (by simp only [List.length_append, List.length_cons, List.length_nil, tl_size]; omega)
    refine Ev.step (fun k => ?_) hn
    simp only [supercargoref48_Text.l1]
    rw [if_pos (by omega), if_pos (by omega), hrd, if_neg (by omega)]
    rw [if_pos (by rw [tx_size]; omega), if_pos (by rw [ByteArray.size_append, tx_size, show (⟨#[32]⟩ : ByteArray).size = 1 from rfl]; omega), if_pos (by rw [ByteArray.size_append, ByteArray.size_append, tx_size, show (⟨#[32]⟩ : ByteArray).size = 1 from rfl]; omega), tail_cat, wrapNat i (by omega)]
  | succ d ih =>
    intro j s hj hd hs
    have hjl : j < p.f2.length := by omega
    have hdr : p.f2.drop j = p.f2[j] :: p.f2.drop (j + 1) := List.drop_eq_getElem_cons hjl
    have hrx : rd_T46 p.f2 (j : Int) = p.f2[j] := by simp [rd_T46, hjl]
    generalize p.f2[j] = x at hdr hrx
    have hwx := hwp.2 x (by rw [← hrx]; simp [rd_T46, hjl])
    rw [hdr, List.flatMap_cons, List.length_append, ent_len] at hs
    have hi := ih (j + 1) (s ++ entT x) (by omega) (by omega) (by rw [List.length_append, ent_len]; omega)
    refine Ev.step (g := fun k => supercargoref48_Text.l1 k l (tx s) (i : Int) (j : Int)) (f := fun k => (supercargoref48_digits.f k x.f2).bind fun t => if (((((tx s ++ (⟨#[32]⟩ : ByteArray)) ++ x.f0) ++ (⟨#[47]⟩ : ByteArray)) ++ x.f1) ++ (⟨#[47]⟩ : ByteArray)).size + t.size ≤ 9223372036854775807 then supercargoref48_Text.l1 k l ((((((tx s ++ (⟨#[32]⟩ : ByteArray)) ++ x.f0) ++ (⟨#[47]⟩ : ByteArray)) ++ x.f1) ++ (⟨#[47]⟩ : ByteArray)) ++ t) (i : Int) (wrap64 ((j : Int) + 1)) else none) (fun k => ?_) ?_
    · simp only [supercargoref48_Text.l1]
      rw [if_pos (by omega), if_pos (by omega), hrd, hrx, if_pos (by omega), if_pos (by omega)]
      rw [if_pos (by rw [tx_size]; omega)]
      rw [if_pos (by simp only [ByteArray.size_append, tx_size, show (⟨#[32]⟩ : ByteArray).size = 1 from rfl]; omega)]
      rw [if_pos (by simp only [ByteArray.size_append, tx_size, show (⟨#[32]⟩ : ByteArray).size = 1 from rfl]; omega)]
      rw [if_pos (by simp only [ByteArray.size_append, tx_size, show (⟨#[32]⟩ : ByteArray).size = 1 from rfl, show (⟨#[47]⟩ : ByteArray).size = 1 from rfl]; omega)]
      rw [if_pos (by simp only [ByteArray.size_append, tx_size, show (⟨#[32]⟩ : ByteArray).size = 1 from rfl, show (⟨#[47]⟩ : ByteArray).size = 1 from rfl]; omega)]
    · refine Ev.bind (digits_ev x.f2 (wf_i64 hwx).1 (wf_i64 hwx).2) ?_
      have hc := ent_cat s x
      refine Ev.congr (fun k => ?_) (by
        rw [hdr, List.flatMap_cons, List.append_assoc (entT x), ← List.append_assoc s] 
        exact hi)
      rw [if_pos (by simp only [ByteArray.size_append, tx_size, show (⟨#[32]⟩ : ByteArray).size = 1 from rfl, show (⟨#[47]⟩ : ByteArray).size = 1 from rfl]; omega), hc, wrapNat j (by omega)]

theorem ref_outer (l : List S29) (hw : WfT l) (hl : l.length ≤ 1000000000) (d : Nat) : ∀ (i : Nat) (s : List UInt8), i ≤ l.length → l.length - i = d → s.length ≤ (textT (l.take i)).length →
    Ev (fun k => supercargoref48_Text.l0 k l (tx s) (i : Int)) (tx (s ++ textT (l.drop i))) := by
  induction d with
  | zero =>
    intro i s hi hd hs
    obtain rfl : i = l.length := by omega
    rw [List.drop_length]
    simp only [textT, List.flatMap_nil, List.append_nil]
    refine Ev.step (f := fun _ => some (tx s)) (fun k => ?_) (Ev.now _)
    simp only [supercargoref48_Text.l0]
    rw [if_neg (by omega)]
  | succ d ih =>
    intro i s hi hd hs
    have hil : i < l.length := by omega
    have hrd : rd_T29 l (i : Int) = l[i] := by simp [rd_T29, hil]
    have hwp := hw.1 _ (List.getElem_mem hil)
    have hT : (textT (l.take (i + 1))).length ≤ 1000000000 := Nat.le_trans (flat_le postT l (i + 1)) hw.2
    have htk : (textT (l.take (i + 1))).length = (textT (l.take i)).length + (postT l[i]).length := by
      have h := flat_take postT l i hil
      unfold textT
      rw [h, List.length_append]
    rw [post_len] at htk
    have hin := ref_inner l hw i hil hl _ (fun s' hs' => ih (i + 1) s' (by omega) (by omega) hs') 0 (s ++ itoa l[i].f0) (by omega) rfl (by rw [List.drop_zero, List.length_append]; omega)
    rw [List.drop_zero] at hin
    refine Ev.step (g := fun k => supercargoref48_Text.l0 k l (tx s) (i : Int)) (f := fun k => (supercargoref48_digits.f k (l[i]).f0).bind fun t => if (tx s).size + t.size ≤ 9223372036854775807 then supercargoref48_Text.l1 k l (tx s ++ t) (i : Int) 0 else none) (fun k => ?_) ?_
    · simp only [supercargoref48_Text.l0]
      rw [if_pos (by omega), if_pos (by omega), hrd]
    · refine Ev.bind (digits_ev _ (wf_i64 hwp.1).1 (wf_i64 hwp.1).2) ?_
      refine Ev.congr (fun k => ?_) (by
        have e : textT (l.drop i) = postT l[i] ++ textT (l.drop (i + 1)) := by rw [List.drop_eq_getElem_cons hil]; rfl
        rw [e, postT]
        simp only [List.append_assoc] at hin ⊢
        exact hin)
      rw [if_pos (by rw [tx_size, tx_size]; omega), tx_app]
      rfl
theorem ref_text (l : List S29) (hw : WfT l) (hl : l.length ≤ 1000000000) : ∃ k, supercargoref48_Text.f k l = some (tx (textT l)) := by
  have h := ref_outer l hw hl l.length 0 [] (by omega) (by omega) (by simp)
  rw [List.drop_zero] at h
  exact Ev.rounds h
end Go.Proofs.YtaogmbiepbhmoaaDoor.A

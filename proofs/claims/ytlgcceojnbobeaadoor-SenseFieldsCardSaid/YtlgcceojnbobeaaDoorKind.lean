/- sense.Kind walked; sense.Fields of a kind that isn't one. -/
import Derived.Test.YtlgcceojnbobeaaDoorFieldsRef
namespace Go.Proofs.YtlgcceojnbobeaaDoor.A
open Go.RowKit Go.Shelf Go.Proofs.YtlgcceojnbobeaaDoorW.PrintWords Go.Proofs.YtlgcceojnbobeaaDoorW.PrintLast Go.Proofs.YtlgcceojnbobeaaDoorW.PrintMore
set_option linter.unusedVariables false
set_option linter.unusedSimpArgs false

def KL : List ByteArray := [(⟨#[105, 110, 118, 111, 105, 99, 101]⟩ : ByteArray), (⟨#[112, 97, 99, 107, 105, 110, 103]⟩ : ByteArray), (⟨#[108, 97, 100, 105, 110, 103]⟩ : ByteArray), (⟨#[105, 110, 115, 117, 114, 97, 110, 99, 101]⟩ : ByteArray), (⟨#[111, 114, 105, 103, 105, 110]⟩ : ByteArray), (⟨#[100, 114, 97, 102, 116]⟩ : ByteArray)]
theorem index_calls (v : Value) (base : Nat) (ok : Nat → Prop) (x : ByteArray) (w : World) (hR : Kd.R Kd.string 9 w base ok v KL) :
    Calls Tryd.prog 25 #[v, .string x] w fun e w' => e = .returned (.int .i64 (Lib.idxOfS KL x)) ∧ w' = w := by
  obtain ⟨A, c, rfl, _, hC⟩ := Kd.R_reads hR
  obtain ⟨ad, e, _⟩ := Kd.at_string hC 0 (by decide) (by decide)
  subst e
  obtain ⟨b, rfl⟩ := Kd.R_head hR
  have h := Any.slices_Index_string Tryd.lays109 b 0 6 c KL x w (Nat.le_refl _) (by decide) (fun j hj => by
    obtain ⟨ad2, e2, hx⟩ := Kd.at_string hC (j : Int) (by omega) (by omega)
    injection e2 with e2
    subst e2
    have e3 : (rdOf ByteArray.empty KL (j : Int)) = KL.getD j ByteArray.empty := by simp [rdOf]
    rw [← e3, ← hx, Int.toNat_natCast]
    unfold Addr.add
    split
    · rename_i h; subst h; rfl
    · rfl)
  rw [show KL.take 6 = KL from rfl] at h
  exact h
def kindP (x : ByteArray) : Int := max (Lib.idxOfS KL x) 0
def isKind (x : ByteArray) : Bool := decide (Lib.idxOfS KL x ≥ 0)
set_option maxHeartbeats 4000000 in
set_option maxRecDepth 100000 in
theorem kind_calls (x : ByteArray) (w : World) : Calls Tryd.prog 9 #[.string x] w fun e w' => e = .returned (.tuple #[.int .i64 (kindP x), .bool (isKind x)]) ∧ Below w.heap.size w w' := by
  have HK := Aside0.mk (sense_kinds.calls _ w rfl)
  have HP : Aside0 (kindP x = max (Lib.idxOfS KL x) 0 ∧ isKind x = decide (Lib.idxOfS KL x ≥ 0)) := ⟨rfl, rfl⟩
  go_enter Tryd.func9, Tryd.ntmps9
  go_wp2_with fail
  refine HK.out.mono ?_
  rintro e w1 ⟨v, rfl, hR, hB⟩
  obtain ⟨A, c, hv⟩ := Kd.R_slice hR
  replace hv : v = .slice A 6 c := hv
  subst hv
  have HI := Aside0.mk (index_calls _ _ _ x w1 hR)
  have HB1 := Aside0.mk hB
  clear hR hB HK
  generalize Lib.idxOfS KL x = i at HI HP
  go_wp2_with fail
  refine HI.out.mono ?_
  rintro e w2 ⟨rfl, rfl⟩
  clear HI
  go_wp2_with fail
  go_ret2
  exact ⟨by rw [HP.out.1, HP.out.2]; rfl, HB1.out⟩
set_option maxHeartbeats 4000000 in
set_option maxRecDepth 100000 in
theorem fields_calls_none (k : Int) (hk : ¬ Kind6 k) (w : World) : Calls Tryd.prog 13 #[.int .i64 k] w fun e w' => e = .returned (.slice none 0 0) ∧ w = w' := by
  unfold Kind6 at hk
  have c0 : (k == 0) = false := by simp; omega
  have c1 : (k == 1) = false := by simp; omega
  have c2 : (k == 2) = false := by simp; omega
  have c3 : (k == 3) = false := by simp; omega
  have c4 : (k == 4) = false := by simp; omega
  have c5 : (k == 5) = false := by simp; omega
  clear hk
  go_enter Tryd.func13, Tryd.ntmps13
  go_wp2_with fail
  go_ret
  exact ⟨rfl, rfl⟩
end Go.Proofs.YtlgcceojnbobeaaDoor.A

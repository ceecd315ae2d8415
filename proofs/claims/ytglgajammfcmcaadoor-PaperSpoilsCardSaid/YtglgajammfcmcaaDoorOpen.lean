/- Arguments as data, opened: from the reader's word (trod) to the print's kinds (Kd). -/
import Derived.Test.YtglgajammfcmcaaDoorWMore
import Derived.Deep.Slices
import Derived.ChangeArms
import Derived.ChangeSame
namespace ScOpen
open Go Go.RowKit Go.Deep Go.Proofs.YtglgajammfcmcaaDoorW.PrintWords

/-- Whatever reads at type t is of the kind d, and good. -/
structure Opens {α : Type} (P : Program) (t : TypeId) (d : Kd α) (good : α → Prop) : Prop where
  sz : P.cellsOf t = d.sz
  op : ∀ {H : Type} {enc : TypeId × Value → H} {w : World} {base : Nat} {spare : Nat → Bool} {held : Bool} {fuel : Nat} {cs : List Value} {x : DataW H × List MemPlace},
    DataW.trod enc P w base spare held fuel t cs = some x → ∃ a : α, d.K w a cs ∧ good a

theorem Opens.mono {α : Type} {P : Program} {t : TypeId} {d : Kd α} {g g' : α → Prop} (h : Opens P t d g) (hg : ∀ a, g a → g' a) : Opens P t d g' :=
  ⟨h.sz, fun hh => by obtain ⟨a, h1, h2⟩ := h.op hh; exact ⟨a, h1, hg a h2⟩⟩
theorem opens_int {P : Program} {t : TypeId} {k : IntKind} (ht : P.underlying t = some (.int k)) (hc : P.cellsOf t = 1) : Opens P t (Kd.int k) (fun n => (Lit.int k n).wf = true) :=
  ⟨hc, fun h => by obtain ⟨n, rfl, _, hw⟩ := DataW.trod_int ht h; exact ⟨n, rfl, hw⟩⟩
theorem opens_bool {P : Program} {t : TypeId} (ht : P.underlying t = some .bool) (hc : P.cellsOf t = 1) : Opens P t Kd.bool (fun _ => True) :=
  ⟨hc, fun h => by obtain ⟨n, rfl, _⟩ := DataW.trod_bool ht h; exact ⟨n, rfl, trivial⟩⟩
theorem opens_string {P : Program} {t : TypeId} (ht : P.underlying t = some .string) (hc : P.cellsOf t = 1) : Opens P t Kd.string (fun s => s.size ≤ maxLen) :=
  ⟨hc, fun h => by obtain ⟨n, rfl, _, hw⟩ := DataW.trod_string ht h; exact ⟨n, rfl, hw⟩⟩

theorem cells_at {w : World} {base : Nat} {a : Addr} {n : Nat} {cs : List Value} (h : w.cells? base a n = some cs) : cs.length = n ∧ ∀ (i : Nat) (u : Value), cs[i]? = some u → w.cell? (a.add i) = some u := by
  obtain ⟨_, hl, hc⟩ := World.cells?_some h
  refine ⟨hl, fun i u hu => ?_⟩
  have hi : i < n := by rw [← hl]; exact (List.getElem?_eq_some_iff.1 hu).1
  have := hc i hi
  rw [hu] at this
  exact this

theorem opens_slice {α : Type} [Inhabited α] {P : Program} {t e : TypeId} {d : Kd α} {g : α → Prop} (ht : P.underlying t = some (.slice e)) (hc : P.cellsOf t = 1) (he : Opens P e d g) :
    Opens P t (Kd.slice e d) (fun l => ∀ x ∈ l, g x) := by
  refine ⟨hc, fun {H enc w base spare held fuel cs x} h => ?_⟩
  rcases open_slice ht h with ⟨rfl, _⟩ | ⟨a, len, cap, m, n, D, Pl, rfl, hb, hl, hm, hmm, _, hx⟩
  · exact ⟨[], ⟨none, 0, rfl, Nat.le_refl _, Kd.C_nil d w⟩, fun x hx => by simp at hx⟩
  · have hlm : len ≤ m := by rw [hmm]; split <;> omega
    obtain ⟨E, hE⟩ := choose_lt (α := α) (n := len) (p := fun i y => g y ∧ ∃ cs', w.cells? base (a.add (i * P.cellsOf e)) (P.cellsOf e) = some cs' ∧ d.K w y cs') (fun i hi => by
      obtain ⟨cs', h1, h2⟩ := hx i (by omega)
      obtain ⟨y, h3, h4⟩ := he.op h2
      exact ⟨y, h4, cs', h1, h3⟩)
    refine ⟨(List.range len).map E, ⟨some a, cap, by simp, by simpa using hl, ?_⟩, fun y hy => ?_⟩
    · refine ⟨rfl, by simp only [List.length_map, List.length_range]; unfold maxLen at hm; omega, fun _ => ⟨a, rfl, fun j p hj => ?_⟩⟩
      have hjl : j < len := by have := (List.getElem?_eq_some_iff.1 hj).1; simpa using this
      have : p = E j := by
        rw [List.getElem?_map, List.getElem?_range hjl] at hj
        simpa using hj.symm
      subst this
      obtain ⟨_, cs', h1, h2⟩ := hE j hjl
      obtain ⟨h3, h4⟩ := cells_at h1
      refine ⟨cs', by rw [h3, he.sz], h2, fun i u hu => ?_⟩
      have := h4 i u hu
      rw [Go.Deep.add_add, he.sz] at this
      exact this
    · obtain ⟨i, hi, rfl⟩ := List.mem_map.1 hy
      exact (hE i (by simpa using hi)).1

/-- A struct's fields from one place on. -/
structure FO {α : Type} (P : Program) (fs : List Field) (off : Nat) (d : Kd α) (g : α → Prop) : Prop where
  op : ∀ {H : Type} {enc : TypeId × Value → H} {w : World} {base : Nat} {spare : Nat → Bool} {held : Bool} {n : Nat} {cs : List Value} (xs : List (DataW H × List MemPlace)),
    xs.length = fs.length → (∀ (i : Nat) (f : Field), fs[i]? = some f → DataW.trod enc P w base spare held n f.type ((cs.drop f.offset).take (P.cellsOf f.type)) = xs[i]?) →
    ∃ a : α, d.K w a ((cs.drop off).take d.sz) ∧ g a

theorem FO_one {α : Type} {P : Program} {f : Field} {d : Kd α} {g : α → Prop} (h : Opens P f.type d g) : FO P [f] f.offset d g := by
  refine ⟨?_⟩
  intro H enc w base spare held n cs xs hl hx
  have := hx 0 f rfl
  match xs, hl with
  | [x0], _ =>
    rw [h.sz] at this
    exact h.op (by simpa using this)
theorem FO_cons {α β : Type} {P : Program} {f : Field} {fs : List Field} {d : Kd α} {g : α → Prop} {d2 : Kd β} {g2 : β → Prop} (h : Opens P f.type d g) (h2 : FO P fs (f.offset + d.sz) d2 g2) : FO P (f :: fs) f.offset (Kd.pair d d2) (fun p => g p.1 ∧ g2 p.2) := by
  refine ⟨?_⟩
  intro H enc w base spare held n cs xs hl hx
  match xs, hl with
  | x0 :: xs, hl =>
    have h0 := hx 0 f rfl
    rw [h.sz] at h0
    obtain ⟨a, ha, hga⟩ := h.op (x := x0) (by simpa using h0)
    obtain ⟨b, hb, hgb⟩ := h2.op (enc := enc) (w := w) (base := base) (spare := spare) (held := held) (n := n) (cs := cs) xs (by simpa using hl) (fun i q hq => by simpa using hx (i + 1) q (by simpa using hq))
    refine ⟨(a, b), ⟨_, _, ?_, ha, hb⟩, hga, hgb⟩
    show (cs.drop f.offset).take (d.sz + d2.sz) = _
    rw [List.take_add, List.drop_drop]

theorem FO_last {α : Type} {P : Program} {f : Field} {off : Nat} {t : TypeId} {d : Kd α} {g : α → Prop} (ht : f.type = t) (ho : f.offset = off) (h : Opens P t d g) : FO P [f] off d g := by
  subst ht; subst ho; exact FO_one h
theorem FO_more {α β : Type} {P : Program} {f : Field} {fs : List Field} {off off2 : Nat} {t : TypeId} {d : Kd α} {g : α → Prop} {d2 : Kd β} {g2 : β → Prop} (ht : f.type = t) (ho : f.offset = off) (h : Opens P t d g) (h3 : off + d.sz = off2) (h2 : FO P fs off2 d2 g2) : FO P (f :: fs) off (Kd.pair d d2) (fun p => g p.1 ∧ g2 p.2) := by
  subst ht; subst ho; subst h3; exact FO_cons h h2

theorem opens_struct {α β : Type} {P : Program} {t : TypeId} {fs : List Field} {d : Kd α} {g : α → Prop} (ht : P.underlying t = some (.struct fs.toArray)) (hc : P.cellsOf t = d.sz) (h : FO P fs 0 d g) (f : β → α) (inv : α → β) (hinv : ∀ a, f (inv a) = a) :
    Opens P t (Kd.iso d f) (fun b => g (f b)) := by
  refine ⟨hc, fun {H enc w base spare held fuel cs x} hh => ?_⟩
  obtain ⟨xs, n, _, _, hl, hlen, hf⟩ := DataW.trod_struct ht hh
  obtain ⟨a, ha, hg⟩ := h.op (enc := enc) (w := w) (base := base) (spare := spare) (held := held) (n := n) (cs := cs) xs (by simpa using hlen) (fun i q hq => hf i q (by simpa using hq))
  refine ⟨inv a, ?_, by rw [hinv]; exact hg⟩
  show d.K w (f (inv a)) cs
  rw [hinv]
  rw [List.drop_zero, List.take_of_length_le (by omega)] at ha
  exact ha
end ScOpen

/- Arguments as data, opened: from the reader's word (trod) to the print's kinds (Kd), with what the bound on their bulk gives. -/
import Derived.Test.YtlgcceojnbobeaaDoorRows
import Derived.Test.YtlgcceojnbobeaaDoorWMore
import Derived.Deep.Slices
import Derived.ChangeArms
import Derived.ChangeSame
namespace ScOpenF
open Go Go.RowKit Go.Deep Go.Proofs.YtlgcceojnbobeaaDoorW.PrintWords Go.Proofs.YtlgcceojnbobeaaDoor

theorem part_le {H : Type} {d : DataW H} {l : List (DataW H)} (h : d ∈ l) : Rows.uptoBulk d ≤ Rows.uptoBulkAll l := by
  induction l with
  | nil => cases h
  | cons x r ih =>
    simp only [Rows.uptoBulkAll]
    cases List.mem_cons.1 h with
    | inl e => subst e; omega
    | inr e => have := ih e; omega
theorem string_eq {H : Type} (bytes : List UInt8) : Rows.uptoBulk (DataW.lit (H := H) (.string bytes)) = bytes.length + 1 := by simp [Rows.uptoBulk]
theorem elem_le {H : Type} {d : DataW H} {l s : List (DataW H)} (h : d ∈ l) : Rows.uptoBulk d ≤ Rows.uptoBulk (.slice l s) := by
  have := part_le h
  simp only [Rows.uptoBulk]; omega
theorem field_le {H : Type} {d : DataW H} {l : List (DataW H)} (h : d ∈ l) : Rows.uptoBulk d ≤ Rows.uptoBulk (.agg l) := by
  have := part_le h
  simp only [Rows.uptoBulk]; omega
theorem bound {H : Type} {l : List (DataW H)} (hk : Rows.uptoSmall H l = true) : Rows.uptoBulkAll l ≤ 1048576 := by
  unfold Rows.uptoSmall at hk
  exact of_decide_eq_true hk

/-- Whatever reads at type t is of the kind d, and good under the bulk of what it reads as. -/
structure Opens {α : Type} (F : Nat) (P : Program) (t : TypeId) (d : Kd α) (good : Nat → α → Prop) : Prop where
  sz : P.cellsOf t = d.sz
  up : ∀ {N M : Nat} {a : α}, N ≤ M → good N a → good M a
  op : ∀ {H : Type} {enc : TypeId × Value → H} {w : World} {base : Nat} {spare : Nat → Bool} {held : Bool} {fuel : Nat} {cs : List Value} {x : DataW H × List MemPlace},
    fuel ≤ F → DataW.trod enc P w base spare held fuel t cs = some x → ∃ a : α, d.K w a cs ∧ good (Rows.uptoBulk x.1) a
theorem Opens.mono {α : Type} {F : Nat} {P : Program} {t : TypeId} {d : Kd α} {g g' : Nat → α → Prop} (h : Opens F P t d g) (hu : ∀ {N M : Nat} {a : α}, N ≤ M → g' N a → g' M a) (hg : ∀ N a, g N a → g' N a) : Opens F P t d g' :=
  ⟨h.sz, hu, fun hF hh => by obtain ⟨a, h1, h2⟩ := h.op hF hh; exact ⟨a, h1, hg _ a h2⟩⟩
theorem opens_int {F : Nat} {P : Program} {t : TypeId} {k : IntKind} (ht : P.underlying t = some (.int k)) (hc : P.cellsOf t = 1) : Opens F P t (Kd.int k) (fun _ n => (Lit.int k n).wf = true) :=
  ⟨hc, fun _ h => h, fun _ h => by obtain ⟨n, rfl, _, hw⟩ := DataW.trod_int ht h; exact ⟨n, rfl, hw⟩⟩
theorem opens_bool {F : Nat} {P : Program} {t : TypeId} (ht : P.underlying t = some .bool) (hc : P.cellsOf t = 1) : Opens F P t Kd.bool (fun _ _ => True) :=
  ⟨hc, fun _ h => h, fun _ h => by obtain ⟨n, rfl, _⟩ := DataW.trod_bool ht h; exact ⟨n, rfl, trivial⟩⟩
theorem opens_string {F : Nat} {P : Program} {t : TypeId} (ht : P.underlying t = some .string) (hc : P.cellsOf t = 1) : Opens F P t Kd.string (fun N s => s.size ≤ maxLen ∧ s.size ≤ N) :=
  ⟨hc, fun hn h => ⟨h.1, Nat.le_trans h.2 hn⟩, fun _ h => by obtain ⟨s, rfl, rfl, hw⟩ := DataW.trod_string ht h; exact ⟨s, rfl, hw, by rw [string_eq, Array.length_toList]; exact Nat.le_succ _⟩⟩

theorem cells_at {w : World} {base : Nat} {a : Addr} {n : Nat} {cs : List Value} (h : w.cells? base a n = some cs) : cs.length = n ∧ ∀ (i : Nat) (u : Value), cs[i]? = some u → w.cell? (a.add i) = some u := by
  obtain ⟨_, hl, hc⟩ := World.cells?_some h
  refine ⟨hl, fun i u hu => ?_⟩
  have hi : i < n := by rw [← hl]; exact (List.getElem?_eq_some_iff.1 hu).1
  have := hc i hi
  rw [hu] at this
  exact this

theorem opens_slice {α : Type} [Inhabited α] {F : Nat} {P : Program} {t e : TypeId} {d : Kd α} {g : Nat → α → Prop} (ht : P.underlying t = some (.slice e)) (hc : P.cellsOf t = 1) (he : Opens F P e d g) :
    Opens F P t (Kd.slice e d) (fun N l => ∀ x ∈ l, g N x) := by
  refine ⟨hc, fun hn h x hx => he.up hn (h x hx), fun {H enc w base spare held fuel cs x} hF h => ?_⟩
  rcases DataW.trod_slice ht h with ⟨rfl, _⟩ | ⟨a, len, cap, elems, rest, n, hn, rfl, hxe, hb, hl, hm, hlen, hel, _, _⟩
  · exact ⟨[], ⟨none, 0, rfl, Nat.le_refl _, Kd.C_nil d w⟩, fun x hx => by simp at hx⟩
  · obtain ⟨E, hE⟩ := choose_lt (α := α) (n := len) (p := fun i y => g (Rows.uptoBulk x.1) y ∧ ∃ cs', w.cells? base (a.add (i * P.cellsOf e)) (P.cellsOf e) = some cs' ∧ d.K w y cs') (fun i hi => by
      have hi' : i < elems.length := by omega
      have h1 := hel i hi
      rw [List.getElem?_eq_getElem hi'] at h1
      obtain ⟨cs', h2, h3⟩ := Option.bind_eq_some_iff.1 h1
      obtain ⟨y, h4, h5⟩ := he.op (by omega) h3
      refine ⟨y, he.up ?_ h5, cs', h2, h4⟩
      rw [hxe]
      exact elem_le (List.mem_map.2 ⟨elems[i], List.getElem_mem hi', rfl⟩))
    refine ⟨(List.range len).map E, ⟨some a, cap, by simp, by simpa using hl, ?_⟩, fun y hy => ?_⟩
    · refine ⟨rfl, by simp only [List.length_map, List.length_range]; unfold maxLen at hm; omega, fun _ => ⟨a, rfl, fun j p hj => ?_⟩⟩
      have hjl : j < len := by have := (List.getElem?_eq_some_iff.1 hj).1; simpa using this
      have : p = E j := by
        rw [List.getElem?_map, List.getElem?_range hjl] at hj
        simpa using hj.symm
      subst this
      obtain ⟨_, cs', h1, h2⟩ := hE j hjl
      obtain ⟨h3, h4⟩ := cells_at h1
      refine ⟨cs', by rw [h3, he.sz], h2, fun i u hu => ?_⟩
      have := h4 i u hu
      rw [Go.Deep.add_add, he.sz] at this
      exact this
    · obtain ⟨i, hi, rfl⟩ := List.mem_map.1 hy
      have hi' : i < len := by simpa using hi
      exact (hE i hi').1

/-- A struct's fields from one place on. -/
structure FO {α : Type} (F : Nat) (P : Program) (fs : List Field) (off : Nat) (d : Kd α) (g : Nat → α → Prop) : Prop where
  up : ∀ {N M : Nat} {a : α}, N ≤ M → g N a → g M a
  op : ∀ {H : Type} {enc : TypeId × Value → H} {w : World} {base : Nat} {spare : Nat → Bool} {held : Bool} {n N : Nat} {cs : List Value} (xs : List (DataW H × List MemPlace)), n ≤ F →
    xs.length = fs.length → (∀ x ∈ xs, Rows.uptoBulk x.1 ≤ N) → (∀ (i : Nat) (f : Field), fs[i]? = some f → DataW.trod enc P w base spare held n f.type ((cs.drop f.offset).take (P.cellsOf f.type)) = xs[i]?) →
    ∃ a : α, d.K w a ((cs.drop off).take d.sz) ∧ g N a

theorem FO_one {α : Type} {F : Nat} {P : Program} {f : Field} {d : Kd α} {g : Nat → α → Prop} (h : Opens F P f.type d g) : FO F P [f] f.offset d g := by
  refine ⟨h.up, ?_⟩
  intro H enc w base spare held n N cs xs hF hl hN hx
  have := hx 0 f rfl
  match xs, hl with
  | [x0], _ =>
    rw [h.sz] at this
    obtain ⟨a, ha, hg⟩ := h.op (x := x0) hF (by simpa using this)
    exact ⟨a, ha, h.up (hN x0 (by simp)) hg⟩
theorem FO_cons {α β : Type} {F : Nat} {P : Program} {f : Field} {fs : List Field} {d : Kd α} {g : Nat → α → Prop} {d2 : Kd β} {g2 : Nat → β → Prop} (h : Opens F P f.type d g) (h2 : FO F P fs (f.offset + d.sz) d2 g2) : FO F P (f :: fs) f.offset (Kd.pair d d2) (fun N p => g N p.1 ∧ g2 N p.2) := by
  refine ⟨fun hn hh => ⟨h.up hn hh.1, h2.up hn hh.2⟩, ?_⟩
  intro H enc w base spare held n N cs xs hF hl hN hx
  match xs, hl with
  | x0 :: xs, hl =>
    have h0 := hx 0 f rfl
    rw [h.sz] at h0
    obtain ⟨a, ha, hga⟩ := h.op (x := x0) hF (by simpa using h0)
    obtain ⟨b, hb, hgb⟩ := h2.op (enc := enc) (w := w) (base := base) (spare := spare) (held := held) (n := n) (N := N) (cs := cs) xs hF (by simpa using hl) (fun x hx => hN x (by simp [hx])) (fun i q hq => by simpa using hx (i + 1) q (by simpa using hq))
    refine ⟨(a, b), ⟨_, _, ?_, ha, hb⟩, h.up (hN x0 (by simp)) hga, hgb⟩
    show (cs.drop f.offset).take (d.sz + d2.sz) = _
    rw [List.take_add, List.drop_drop]

theorem FO_last {α : Type} {F : Nat} {P : Program} {f : Field} {off : Nat} {t : TypeId} {d : Kd α} {g : Nat → α → Prop} (ht : f.type = t) (ho : f.offset = off) (h : Opens F P t d g) : FO F P [f] off d g := by
  subst ht; subst ho; exact FO_one h
theorem FO_more {α β : Type} {F : Nat} {P : Program} {f : Field} {fs : List Field} {off off2 : Nat} {t : TypeId} {d : Kd α} {g : Nat → α → Prop} {d2 : Kd β} {g2 : Nat → β → Prop} (ht : f.type = t) (ho : f.offset = off) (h : Opens F P t d g) (h3 : off + d.sz = off2) (h2 : FO F P fs off2 d2 g2) : FO F P (f :: fs) off (Kd.pair d d2) (fun N p => g N p.1 ∧ g2 N p.2) := by
  subst ht; subst ho; subst h3; exact FO_cons h h2

theorem opens_struct {α β : Type} {F : Nat} {P : Program} {t : TypeId} {fs : List Field} {d : Kd α} {g : Nat → α → Prop} (ht : P.underlying t = some (.struct fs.toArray)) (hc : P.cellsOf t = d.sz) (h : FO F P fs 0 d g) (f : β → α) (inv : α → β) (hinv : ∀ a, f (inv a) = a) :
    Opens (F + 1) P t (Kd.iso d f) (fun N b => g N (f b)) := by
  refine ⟨hc, fun hn hh => h.up hn hh, fun {H enc w base spare held fuel cs x} hF hh => ?_⟩
  obtain ⟨xs, n, hfn, hxe, hl, hlen, hf⟩ := DataW.trod_struct ht hh
  obtain ⟨a, ha, hg⟩ := h.op (enc := enc) (w := w) (base := base) (spare := spare) (held := held) (n := n) (N := Rows.uptoBulk x.1) (cs := cs) xs (by omega) (by simpa using hlen) (fun y hy => by rw [hxe]; exact field_le (List.mem_map.2 ⟨y, hy, rfl⟩)) (fun i q hq => hf i q (by simpa using hq))
  refine ⟨inv a, ?_, by rw [hinv]; exact hg⟩
  show d.K w (f (inv a)) cs
  rw [hinv]
  rw [List.drop_zero, List.take_of_length_le (by omega)] at ha
  exact ha
end ScOpenF

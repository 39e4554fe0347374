/- What an argument that can be read as data gives: its cells read as a value of a kind (numbers, bools, strings, slices, structs, arrays), whatever its depth. -/
import Derived.Test.YtlhfafklpchihaaDoorWWords
import Derived.Test.YtlhfafklpchihaaDoorWMore
import Derived.ChangeArms
import Derived.OpenShut
import Derived.DataReads
import Derived.DataElems
namespace Go.Proofs.YtlhfafklpchihaaDoor
open Go.RowKit Go.Proofs.YtlhfafklpchihaaDoorW.PrintWords
/-- Each reading at type t is a reading of the kind d, of a value that meets wf. -/
structure Opens (P : Program) (t : TypeId) {α : Type} (d : Kd α) (wf : α → Prop) : Prop where
  out : ∀ {H : Type} {enc : TypeId × Value → H} {w : World} {base : Nat} {spare : Nat → Bool} {held : Bool} {fuel : Nat} {cs : List Value} {x : DataW H × List MemPlace},
    DataW.trod enc P w base spare held fuel t cs = some x → ∃ y, d.K w y cs ∧ wf y
theorem opens_int {P : Program} {t : TypeId} {k : IntKind} (ht : P.underlying t = some (.int k)) : Opens P t (Kd.int k) (fun n => (Lit.int k n).wf = true) := by
  refine ⟨?_⟩
  intro H enc w base spare held fuel cs x h
  obtain ⟨n, rfl, _, hw⟩ := DataW.trod_int ht h
  exact ⟨n, rfl, hw⟩
theorem opens_bool {P : Program} {t : TypeId} (ht : P.underlying t = some .bool) : Opens P t Kd.bool (fun _ => True) := by
  refine ⟨?_⟩
  intro H enc w base spare held fuel cs x h
  obtain ⟨n, rfl, _⟩ := DataW.trod_bool ht h
  exact ⟨n, rfl, trivial⟩
theorem opens_string {P : Program} {t : TypeId} (ht : P.underlying t = some .string) : Opens P t Kd.string (fun s => s.size ≤ maxLen) := by
  refine ⟨?_⟩
  intro H enc w base spare held fuel cs x h
  obtain ⟨s, rfl, _, hs⟩ := DataW.trod_string ht h
  exact ⟨s, rfl, hs⟩
/-- The list of the values that a function of the index tells. -/
theorem list_of {α : Type} (n : Nat) (Q : Nat → α → Prop) (h : ∀ i, i < n → ∃ y, Q i y) : ∃ l : List α, l.length = n ∧ ∀ i y, l[i]? = some y → Q i y := by
  induction n with
  | zero => exact ⟨[], rfl, fun i y hi => by simp at hi⟩
  | succ n ih =>
    obtain ⟨l, hl, hq⟩ := ih (fun i hi => h i (by omega))
    obtain ⟨y, hy⟩ := h n (by omega)
    refine ⟨l ++ [y], by simp [hl], fun i z hz => ?_⟩
    rcases Nat.lt_or_ge i l.length with hi | hi
    · rw [List.getElem?_append_left hi] at hz; exact hq i z hz
    · have : i = n := by
        have := (List.getElem?_eq_some_iff.1 hz).1
        rw [List.length_append, List.length_singleton] at this; omega
      subst this
      rw [← hl, List.getElem?_concat_length] at hz
      rw [← hl] at hy ⊢
      exact Option.some.inj hz ▸ hy
theorem opens_row {P : Program} {t e : TypeId} {α : Type} {d : Kd α} {wf : α → Prop} (ht : P.underlying t = some (.slice e)) (hc : P.cellsOf e = d.sz) (he : Opens P e d wf)
    {H : Type} {enc : TypeId × Value → H} {w : World} {base : Nat} {spare : Nat → Bool} {held : Bool} {fuel : Nat} {cs : List Value} {x : DataW H × List MemPlace}
    (h : DataW.trod enc P w base spare held fuel t cs = some x) : ∃ (A : Option Addr) (c : Nat) (xs : List α), cs = [.slice A xs.length c] ∧ xs.length ≤ c ∧ d.C w A xs.length xs ∧ ∀ y ∈ xs, wf y := by
  rcases DataW.trod_slice ht h with ⟨rfl, _⟩ | ⟨a, len, cap, elems, rest, n, _, rfl, _, hb, hl, hm, hlen, hel, _, _⟩
  · exact ⟨none, 0, [], rfl, Nat.le_refl _, ⟨rfl, by simp, fun h => absurd h (by simp)⟩, fun y hy => by cases hy⟩
  · obtain ⟨l, hll, hq⟩ := list_of len (fun i y => ∃ c, w.cells? base (a.add (i * P.cellsOf e)) (P.cellsOf e) = some c ∧ d.K w y c ∧ wf y) (fun i hi => by
      have h1 := hel i hi
      obtain ⟨z, hz⟩ : ∃ z, elems[i]? = some z := ⟨_, List.getElem?_eq_getElem (by omega)⟩
      rw [hz, Option.bind_eq_some_iff] at h1
      obtain ⟨c, hc1, hc2⟩ := h1
      obtain ⟨y, hy, hw⟩ := he.out hc2
      exact ⟨y, c, hc1, hy, hw⟩)
    refine ⟨some a, cap, l, by rw [hll], by omega, ⟨rfl, by unfold maxLen at hm; omega, fun _ => ⟨a, rfl, fun j p hj => ?_⟩⟩, fun y hy => ?_⟩
    · obtain ⟨c, hc1, hy, _⟩ := hq j p hj
      refine ⟨c, d.K_len hy, hy, fun i u hu => ?_⟩
      obtain ⟨_, hcl, hcell⟩ := World.cells?_some hc1
      have hi : i < P.cellsOf e := by have := (List.getElem?_eq_some_iff.1 hu).1; rw [hcl] at this; exact this
      have h2 := hcell i hi
      rw [hu] at h2
      rw [← hc, ← Addr.add_add]
      exact h2
    · obtain ⟨i, hi⟩ := List.mem_iff_getElem?.1 hy
      obtain ⟨c, _, _, hw⟩ := hq i y hi
      exact hw
theorem opens_slice {P : Program} {t e : TypeId} {α : Type} {d : Kd α} {wf : α → Prop} (ht : P.underlying t = some (.slice e)) (hc : P.cellsOf e = d.sz) (he : Opens P e d wf) : Opens P t (Kd.slice e d) (fun xs => ∀ y ∈ xs, wf y) := by
  refine ⟨?_⟩
  intro H enc w base spare held fuel cs x h
  obtain ⟨A, c, xs, rfl, hl, hC, hw⟩ := opens_row ht hc he h
  exact ⟨xs, ⟨A, c, rfl, hl, hC⟩, hw⟩
theorem opens_iso {P : Program} {t : TypeId} {α β : Type} {d : Kd α} {wf : α → Prop} {f : β → α} (g : α → β) (hg : ∀ x, f (g x) = x) (h : Opens P t d wf) : Opens P t (Kd.iso d f) (fun y => wf (f y)) := by
  refine ⟨?_⟩
  intro H enc w base spare held fuel cs x hx
  obtain ⟨y, hy, hw⟩ := h.out hx
  exact ⟨g y, by show d.K w (f (g y)) cs; rw [hg]; exact hy, by show wf (f (g y)); rw [hg]; exact hw⟩
theorem Opens.imp {P : Program} {t : TypeId} {α : Type} {d : Kd α} {wf wf' : α → Prop} (h : Opens P t d wf) (hi : ∀ x, wf x → wf' x) : Opens P t d wf' := by
  refine ⟨?_⟩
  intro H enc w base spare held fuel cs x hx
  obtain ⟨y, hy, hw⟩ := h.out hx
  exact ⟨y, hy, hi _ hw⟩
/-- The same of a list of parts that follow one another (offset and type) from cell 'off' on, 'n' cells in all. -/
structure OpensF (P : Program) (fs : List (Nat × TypeId)) (off n : Nat) {α : Type} (d : Kd α) (wf : α → Prop) : Prop where
  out : ∀ {H : Type} {enc : TypeId × Value → H} {w : World} {base : Nat} {spare : Nat → Bool} {held : Bool} {fuel : Nat} {cs : List Value},
    cs.length = n → (∀ f ∈ fs, ∃ x, DataW.trod enc P w base spare held fuel f.2 ((cs.drop f.1).take (P.cellsOf f.2)) = some x) → ∃ y, d.K w y (cs.drop off) ∧ wf y
theorem opensF_one {P : Program} {off n : Nat} {t : TypeId} {α : Type} {d : Kd α} {wf : α → Prop} (h : Opens P t d wf) (hn : off + P.cellsOf t = n) : OpensF P [(off, t)] off n d wf := by
  refine ⟨?_⟩
  intro H enc w base spare held fuel cs hl hf
  obtain ⟨x, hx⟩ := hf (off, t) (List.mem_singleton.2 rfl)
  rw [List.take_of_length_le (by rw [List.length_drop]; simp only; omega)] at hx
  exact h.out hx
theorem opensF_cons {P : Program} {off off' n : Nat} {t : TypeId} {fs : List (Nat × TypeId)} {α β : Type} {d : Kd α} {d' : Kd β} {wf : α → Prop} {wf' : β → Prop} (h : Opens P t d wf) (ho : off + P.cellsOf t = off') (hs : OpensF P fs off' n d' wf') :
    OpensF P ((off, t) :: fs) off n (Kd.pair d d') (fun x => wf x.1 ∧ wf' x.2) := by
  refine ⟨?_⟩
  intro H enc w base spare held fuel cs hl hf
  obtain ⟨x, hx⟩ := hf (off, t) (List.mem_cons_self ..)
  obtain ⟨y, hy, hw⟩ := h.out hx
  obtain ⟨z, hz, hw'⟩ := hs.out hl (fun f hm => hf f (List.mem_cons_of_mem _ hm))
  refine ⟨(y, z), ⟨_, _, ?_, hy, hz⟩, hw, hw'⟩
  rw [← ho, ← List.drop_drop, List.take_append_drop]
theorem opens_struct {P : Program} {t : TypeId} {fs : Array Field} {n : Nat} {α : Type} {d : Kd α} {wf : α → Prop} (ht : P.underlying t = some (.struct fs)) (hn : P.cellsOf t = n) (h : OpensF P (fs.toList.map fun f => (f.offset, f.type)) 0 n d wf) : Opens P t d wf := by
  refine ⟨?_⟩
  intro H enc w base spare held fuel cs x hx
  obtain ⟨xs, m, _, _, hl, hxl, hf⟩ := DataW.trod_struct ht hx
  obtain ⟨y, hy, hw⟩ := h.out (hl.trans hn) (fun f hm => by
    obtain ⟨g, hg, rfl⟩ := List.mem_map.1 hm
    obtain ⟨i, hi⟩ := List.mem_iff_getElem?.1 hg
    have hi' : fs[i]? = some g := by simpa using hi
    have h1 := hf i g hi'
    have hlt : i < xs.length := by rw [hxl]; exact (Array.getElem?_eq_some_iff.1 hi').1
    rw [List.getElem?_eq_getElem hlt] at h1
    exact ⟨_, h1⟩)
  exact ⟨y, by simpa using hy, hw⟩
theorem opens_array {P : Program} {t e : TypeId} {k n : Nat} {α : Type} {d : Kd α} {wf : α → Prop} (ht : P.underlying t = some (.array k e)) (hn : P.cellsOf t = n) (h : OpensF P ((List.range k).map fun i => (i * P.cellsOf e, e)) 0 n d wf) : Opens P t d wf := by
  refine ⟨?_⟩
  intro H enc w base spare held fuel cs x hx
  obtain ⟨xs, m, _, _, hl, hxl, hf⟩ := DataW.trod_array ht hx
  obtain ⟨y, hy, hw⟩ := h.out (hl.trans hn) (fun f hm => by
    obtain ⟨i, hi, rfl⟩ := List.mem_map.1 hm
    have hi' := List.mem_range.1 hi
    have h1 := hf i hi'
    rw [List.getElem?_eq_getElem (by rw [hxl]; exact hi')] at h1
    exact ⟨_, h1⟩)
  exact ⟨y, by simpa using hy, hw⟩
end Go.Proofs.YtlhfafklpchihaaDoor

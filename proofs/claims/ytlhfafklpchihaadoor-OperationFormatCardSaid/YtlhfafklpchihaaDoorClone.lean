/- slices.Clone of operations and of tools returns a slice whose elements read as the argument's. -/
import Derived.Test.YtlhfafklpchihaaDoorMAllx
import Derived.WalkSpells
import Derived.Lib.Hide
import Derived.Lib.LazyBuf
namespace Go.Proofs.YtlhfafklpchihaaDoor.MAll
open Go.RowKit Go.Proofs.YtlhfafklpchihaaDoorW.PrintWords Go.Proofs.YtlhfafklpchihaaDoorW.PrintLast Go.Proofs.YtlhfafklpchihaaDoorW.PrintMore
set_option linter.unusedVariables false
theorem info37_ : (Tryd.prog.info? 37).map (fun i => (i.zero, i.size, i.bytes)) = some (some (.agg #[.int .i64 0, .int .i64 0, .int .i64 0, .slice none 0 0, .int .i64 0]), 5, 56) := by kernel_rfl
theorem info46_ : (Tryd.prog.info? 46).map (fun i => (i.zero, i.size, i.bytes)) = some (some (.agg #[.int .i64 0, .int .i64 0, .int .i64 0, .int .i64 0, .int .i64 0, .int .i64 0, .int .i64 0, .int .i64 0]), 8, 64) := by kernel_rfl
theorem C_none {α : Type} {d : Kd α} {w : World} {n : Nat} {l : List α} (h : d.C w none n l) : l = [] ∧ n = 0 := by
  obtain ⟨h1, _, h3⟩ := h
  rcases Nat.eq_zero_or_pos n with h0 | h0
  · exact ⟨List.eq_nil_of_length_eq_zero (by omega), h0⟩
  · obtain ⟨_, h, _⟩ := h3 h0; cases h
theorem C_cells {α : Type} {d : Kd α} {w : World} {ad : Addr} {l : List α} (h : d.C w (some ad) l.length l) (hs : 0 < d.sz) : ∃ news, Reps (d.K w) d.sz l news ∧ (∀ j u, news[j]? = some u → w.cell? (ad.add j) = some u) ∧ ∀ u ∈ news, u.oneCell' = true := by
  obtain ⟨news, hn, hc⟩ := ReadsRow.inner_ h
  refine ⟨news, hn, hc, fun u hu => ?_⟩
  obtain ⟨q, hq, rfl⟩ := List.mem_iff_getElem.1 hu
  have hql : q / d.sz < l.length := by rw [Nat.div_lt_iff_lt_mul hs, ← hn.1]; exact hq
  refine d.K_one (hn.2 (q / d.sz) _ (List.getElem?_eq_getElem hql)) _ ?_
  rw [List.mem_iff_getElem?]
  refine ⟨q % d.sz, ?_⟩
  rw [List.getElem?_take, if_pos (Nat.mod_lt _ hs), List.getElem?_drop, Nat.mul_comm, Nat.div_add_mod, List.getElem?_eq_getElem hq]
theorem C_owned {α : Type} {d : Kd α} {w w1 : World} {base : Nat} {e : TypeId} {v : Value} {l : List α} {news : List Value} (hn : Reps (d.K w) d.sz l news) (hb : Below w.heap.size w w1) (ho : w1.ownsRow base e d.sz v l.length news) :
    ∃ A c, v = .slice A l.length c ∧ l.length ≤ c ∧ d.C w1 A l.length l := by
  obtain ⟨A, c, rfl, hr⟩ := own_reads_row ho (hn.imp_ (fun _ _ h => d.K_below hb h)) rfl
  exact ⟨A, c, rfl, own_le ho, hr⟩
set_option maxHeartbeats 1000000 in
theorem slices_Clone_Operation.calls (A0 : Option Addr) (c0 : Nat) (l0 : List S37) (w : World) (hr0 : Kd.C k37 w A0 l0.length l0) (hc0 : l0.length ≤ c0) (hb : l0.length * 56 ≤ 140737488355328) :
    Calls Tryd.prog 15 #[.slice A0 l0.length c0] w fun e w' => ∃ A1 c1, e = .returned (.slice A1 l0.length c1) ∧ l0.length ≤ c1 ∧ Kd.C k37 w' A1 l0.length l0 ∧ Below w.heap.size w w' := by
  cases A0 with
  | none =>
    obtain ⟨rfl, _⟩ := C_none hr0
    clear hb hr0 hc0
    simp only [List.length_nil]
    have he := fun W : World => run_eql_slice_nil (P := Tryd.prog) W 29 37 none 0 c0 Tryd.underlying29
    go_enter Tryd.func15, Tryd.ntmps15
    go_wp2
    go_ret
    exact ⟨none, 0, rfl, Nat.le_refl _, Kd.C_nil _ _, Below.refl _ _⟩
  | some ad =>
    obtain ⟨news, hn, hcell, hone⟩ := C_cells hr0 (by decide)
    have HN := Lib.hid hn; clear hn
    have HCE := Lib.hid hcell; clear hcell
    have HON := Lib.hid hone; clear hone
    have HR := Lib.hid hr0; clear hr0
    obtain ⟨i0, hi, hz0, hz1, hz2⟩ := info_parts info37_
    have he := fun W : World => run_eql_slice_nil (P := Tryd.prog) W 29 37 (some ad) l0.length c0 Tryd.underlying29
    go_enter Tryd.func15, Tryd.ntmps15
    have hown : (w.alloc (.cells #[] 37)).ownsRow w.heap.size 37 5 (.slice (some ⟨w.heap.size, 0, none⟩) 0 0) 0 [] := ⟨rfl, .inr ⟨w.heap.size, 0, #[], rfl, Nat.le_refl _, heap_alloc_new w _, Nat.le_refl _, by decide, rfl, rfl⟩⟩
    have HOW := Lib.hid hown; clear hown
    have HLN := Lib.hid (show news.length = l0.length * 5 from HN.out.1)
    go_wp2_with (at_builtin; refine wpList_append_own _ rfl _ _ 29 rfl w.heap.size 37 i0 _ 5 56 Tryd.underlying29 hi hz0 hz1 hz2 rfl (by decide) _ 0 [] rfl HOW.out ad l0.length c0 news rfl HLN.out ?c2 HON.out ?c3 ?c4 ?c5 ?_)
    case c2 => intro j u hj; exact (pw_cell_below (below_alloc (Below.refl _ _) _) (HCE.out j u hj))
    case c3 => unfold maxLen; omega
    case c4 => omega
    case c5 => simp
    intro v' w' ho hg _
    have hbel : Below w.heap.size w w' := (below_alloc (Below.refl w.heap.size w) _).grown hg (by simp) (fun k hk => by cases hk; exact Nat.le_refl _)
    obtain ⟨A1, c1, rfl, hc1, hC1⟩ := C_owned (e := 37) HN.out hbel ho
    go_wp2
    go_ret
    exact ⟨A1, c1, rfl, hc1, hC1, hbel⟩
set_option maxHeartbeats 1000000 in
theorem slices_Clone_Tool.calls (A0 : Option Addr) (c0 : Nat) (l0 : List S46) (w : World) (hr0 : Kd.C k46 w A0 l0.length l0) (hc0 : l0.length ≤ c0) (hb : l0.length * 64 ≤ 140737488355328) :
    Calls Tryd.prog 20 #[.slice A0 l0.length c0] w fun e w' => ∃ A1 c1, e = .returned (.slice A1 l0.length c1) ∧ l0.length ≤ c1 ∧ Kd.C k46 w' A1 l0.length l0 ∧ Below w.heap.size w w' := by
  cases A0 with
  | none =>
    obtain ⟨rfl, _⟩ := C_none hr0
    clear hb hr0 hc0
    simp only [List.length_nil]
    have he := fun W : World => run_eql_slice_nil (P := Tryd.prog) W 40 46 none 0 c0 Tryd.underlying40
    go_enter Tryd.func20, Tryd.ntmps20
    go_wp2
    go_ret
    exact ⟨none, 0, rfl, Nat.le_refl _, Kd.C_nil _ _, Below.refl _ _⟩
  | some ad =>
    obtain ⟨news, hn, hcell, hone⟩ := C_cells hr0 (by decide)
    have HN := Lib.hid hn; clear hn
    have HCE := Lib.hid hcell; clear hcell
    have HON := Lib.hid hone; clear hone
    have HR := Lib.hid hr0; clear hr0
    obtain ⟨i0, hi, hz0, hz1, hz2⟩ := info_parts info46_
    have he := fun W : World => run_eql_slice_nil (P := Tryd.prog) W 40 46 (some ad) l0.length c0 Tryd.underlying40
    go_enter Tryd.func20, Tryd.ntmps20
    have hown : (w.alloc (.cells #[] 46)).ownsRow w.heap.size 46 8 (.slice (some ⟨w.heap.size, 0, none⟩) 0 0) 0 [] := ⟨rfl, .inr ⟨w.heap.size, 0, #[], rfl, Nat.le_refl _, heap_alloc_new w _, Nat.le_refl _, by decide, rfl, rfl⟩⟩
    have HOW := Lib.hid hown; clear hown
    have HLN := Lib.hid (show news.length = l0.length * 8 from HN.out.1)
    go_wp2_with (at_builtin; refine wpList_append_own _ rfl _ _ 40 rfl w.heap.size 46 i0 _ 8 64 Tryd.underlying40 hi hz0 hz1 hz2 rfl (by decide) _ 0 [] rfl HOW.out ad l0.length c0 news rfl HLN.out ?c2 HON.out ?c3 ?c4 ?c5 ?_)
    case c2 => intro j u hj; exact (pw_cell_below (below_alloc (Below.refl _ _) _) (HCE.out j u hj))
    case c3 => unfold maxLen; omega
    case c4 => omega
    case c5 => simp
    intro v' w' ho hg _
    have hbel : Below w.heap.size w w' := (below_alloc (Below.refl w.heap.size w) _).grown hg (by simp) (fun k hk => by cases hk; exact Nat.le_refl _)
    obtain ⟨A1, c1, rfl, hc1, hC1⟩ := C_owned (e := 46) HN.out hbel ho
    go_wp2
    go_ret
    exact ⟨A1, c1, rfl, hc1, hC1, hbel⟩
end Go.Proofs.YtlhfafklpchihaaDoor.MAll

/- Contracts of functions of the given program (lines by a program of this session's own). -/
import Derived.Test.YtlhfafklpchihaaDoorMAllx0
import Derived.Test.YtlhfafklpchihaaDoorMAllx2
import Derived.Test.YtlhfafklpchihaaDoorMAllx3
import Derived.Test.YtlhfafklpchihaaDoorMAllx4
namespace Go.Proofs.YtlhfafklpchihaaDoor.MAll
open Go.RowKit Go.Proofs.YtlhfafklpchihaaDoorW.PrintWords Go.Proofs.YtlhfafklpchihaaDoorW.PrintLast Go.Proofs.YtlhfafklpchihaaDoorW.PrintMore
attribute [local go_sem] max2_int min2_int max_two min_two max_three min_three max_four min_four   -- for this text's walks alone
set_option linter.unusedVariables false
set_option linter.unusedSimpArgs false

/-! ### swarfref28_Tools: function 21 -/
def swarfref28_Tools.l0 : Nat → List (S37) → List (S46) → List Int → Int → Option (List Int × Int)
  | 0, _, _, _, _ => none
  | k + 1, x0, x1, x6, x7 => if x7 < (x0.length : Int) then (if 0 ≤ x7 then (if ((rd_T37 x0 x7).f2) < 0 then (some (([] : List Int), 1)) else (if ((rd_T37 x0 x7).f2) ≥ (x1.length : Int) then (some (([] : List Int), 1)) else (if 0 ≤ ((rd_T37 x0 x7).f2) then (if ((rd_T37 x0 x7).f2) < (x1.length : Int) then (if x6.length < 17592186044416 then (swarfref28_Tools.l0 k x0 x1 (x6 ++ [(rd_T46 x1 ((rd_T37 x0 x7).f2)).f0]) (wrap64 (x7 + 1))) else (none)) else (none)) else (none)))) else (none)) else (some (x6, 0))
def swarfref28_Tools.f (k : Nat) (l0 : List (S37)) (l1 : List (S46)) : Option (List Int × Int) := swarfref28_Tools.l0 k l0 l1 ([] : List Int) 0
theorem swarfref28_Tools.mono_l : ∀ k, (∀ y0 y1 y2 y3, LeO (swarfref28_Tools.l0 k y0 y1 y2 y3) (swarfref28_Tools.l0 (k + 1) y0 y1 y2 y3))
  | 0 => fun _ _ _ _ r h => by simp [swarfref28_Tools.l0] at h
  | k + 1 => by
    have ih0 := swarfref28_Tools.mono_l k
    · intro y0 y1 y2 y3
      unfold swarfref28_Tools.l0
      repeat' first
      | (with_reducible exact ih0 _ _ _ _)
      | (with_reducible exact LeO.refl _)
      | (with_reducible exact LeO.none _)
      | (with_reducible refine LeO.ite ?_ ?_)
      | (with_reducible refine LeO.bind ?_ (fun _ => ?_))
      | exact ih0 _ _ _ _
      | exact LeO.none _
      | refine LeO.ite ?_ ?_
      | refine LeO.bind ?_ (fun _ => ?_)
theorem swarfref28_Tools.mono : ∀ a0 a1 k, LeO (swarfref28_Tools.f k a0 a1) (swarfref28_Tools.f (k + 1) a0 a1) := by
  intro a0 a1 k
  have ih0 := swarfref28_Tools.mono_l k
  unfold swarfref28_Tools.f
  repeat' first
      | (with_reducible exact ih0 _ _ _ _)
      | (with_reducible exact LeO.refl _)
      | (with_reducible exact LeO.none _)
      | (with_reducible refine LeO.ite ?_ ?_)
      | (with_reducible refine LeO.bind ?_ (fun _ => ?_))
      | exact ih0 _ _ _ _
      | exact LeO.none _
      | refine LeO.ite ?_ ?_
      | refine LeO.bind ?_ (fun _ => ?_)
set_option maxHeartbeats 8000000 in
set_option maxRecDepth 100000 in
theorem swarfref28_Tools.calls (k : Nat) (A0 : Option Addr) (c0 : Nat) (l0 : List (S37)) (A1 : Option Addr) (c1 : Nat) (l1 : List (S46)) (r1 : List Int) (r2 : Int) (w : World) (hr0 : Kd.C k37 w A0 l0.length l0) (hc0 : l0.length ≤ c0) (hr1 : Kd.C k46 w A1 l1.length l1) (hc1 : l1.length ≤ c1) (h : swarfref28_Tools.f k l0 l1 = some (r1, r2)) :
    Calls Tryd.prog 21 #[.slice A0 l0.length c0, .slice A1 l1.length c1] w fun e w' => ∃ v0_ : Value, e = .returned (.tuple #[v0_, .int .i64 r2]) ∧ Kd.R (Kd.int .i64) 3 w' w.heap.size (fun _ => True) v0_ r1 ∧ Below w.heap.size w w' := by
  have HR0 := Aside0.mk hr0
  have HC0 := Aside0.mk hc0
  clear hr0 hc0
  have HR1 := Aside0.mk hr1
  have HC1 := Aside0.mk hc1
  clear hr1 hc1
  have HB := Aside0.mk (Below.refl w.heap.size w)
  have H : (swarfref28_Tools.l0 k l0 l1 ([] : List Int) 0) = some (r1, r2) := h
  clear h
  have H' := Aside0.mk H
  clear H
  go_enter Tryd.func21, Tryd.ntmps21
  go_wp2
  go_loopg [6, 7] k (fun kq v6 v7 w' => ∃ (x6_1 : List Int) (x7_1 : Int), v7 = .int .i64 x7_1 ∧ Aside0 (swarfref28_Tools.l0 kq l0 l1 x6_1 x7_1 = some (r1, r2)) ∧ Aside0 (kq ≤ k) ∧ Aside0 (Kd.R (Kd.int .i64) 3 w' w.heap.size (fun _ => True) v6 x6_1) ∧ Aside0 (Below w.heap.size w w'))
  case atStart => exact ⟨(([] : List Int)), (0), (by first | rfl | (simp; done) | (simp [*]; done)), H', ⟨Nat.le_refl _⟩, ⟨by first | exact Kd.R_nil _ _ _ _ _ | exact Kd.N_nil _ _ _ _ _ | exact Kd.V_nil _ _ _ _ _ | exact Kd.Q_nil _ _ _ _ _ | exact Kd.S_nil _ _ _ _ _⟩, ⟨by repeat (first | (with_reducible first | exact HB.out | apply below_alloc | apply pw_below_drewN | apply below_drew1) | exact HB.out)⟩⟩
  case round =>
    clear H'
    try clear c1
    try clear c2
    try clear p2
    obtain ⟨x6_1, x7_1, rfl, HA, HK1, HO_6, HB⟩ := hrel
    cases gk with
    | zero => exact absurd HA.out (by simp [swarfref28_Tools.l0])
    | succ k1 =>
      have H := HA.out
      clear HA
      simp only [swarfref28_Tools.l0] at H
      by_cases c3 : x7_1 < (l0.length : Int)
      · rw [if_pos c3] at H
        have c3b0 : decide (x7_1 < (l0.length : Int)) = true := decide_eq_true c3
        clear c3
        by_cases c4 : 0 ≤ x7_1
        · rw [if_pos c4] at H
          have c4b0 : decide (0 ≤ x7_1) = true := decide_eq_true c4
          clear c4
          by_cases c5 : ((rd_T37 l0 x7_1).f2) < 0
          · rw [if_pos c5] at H
            have c5b0 : decide (((rd_T37 l0 x7_1).f2) < 0) = true := decide_eq_true c5
            clear c5
            simp only [Option.some.injEq, Prod.mk.injEq] at H
            obtain ⟨rfl, rfl⟩ := H
            have p171 : 0 ≤ (x7_1 : Int) := of_decide_eq_true (by first | (with_reducible assumption) | assumption)
            have q171 : x7_1 < (l0.length : Int) := of_decide_eq_true (by first | (with_reducible assumption) | assumption)
            obtain ⟨ad171, A171_3, c171_3, e171, hx171_0, hx171_1, hx171_2, hx171_3, hx171_4, hl171_3, hi171_3⟩ := at_T37 HR0.out x7_1 p171 q171
            cases e171
            replace hx171_0 := (HB.out.cell (World.block_lt_of_cell? w _ hx171_0)).trans hx171_0
            replace hx171_1 := (HB.out.cell (World.block_lt_of_cell? w _ hx171_1)).trans hx171_1
            replace hx171_2 := (HB.out.cell (World.block_lt_of_cell? w _ hx171_2)).trans hx171_2
            replace hx171_3 := (HB.out.cell (World.block_lt_of_cell? w _ hx171_3)).trans hx171_3
            replace hx171_4 := (HB.out.cell (World.block_lt_of_cell? w _ hx171_4)).trans hx171_4
            have HR171_3 := Aside0.mk hi171_3
            have HC171_3 := Aside0.mk hl171_3
            clear hi171_3 hl171_3
            replace p171 := eq_true p171
            replace q171 := eq_true q171
            go_wp2
            go_ret2
            exact ⟨_, by first | rfl | (simp [errW_none, errW_some] <;> rfl) | (simp [*, errW_none, errW_some] <;> rfl), by first | exact Kd.R_nil _ _ _ _ _ | exact Kd.N_nil _ _ _ _ _ | exact Kd.V_nil _ _ _ _ _ | exact Kd.Q_nil _ _ _ _ _ | exact Kd.S_nil _ _ _ _ _, by repeat (first | (with_reducible first | exact HB.out | apply below_alloc | apply pw_below_drewN | apply below_drew1) | exact HB.out)⟩
          · rw [if_neg c5] at H
            have c5b0 : decide (((rd_T37 l0 x7_1).f2) < 0) = false := decide_eq_false c5
            clear c5
            by_cases c6 : ((rd_T37 l0 x7_1).f2) ≥ (l1.length : Int)
            · rw [if_pos c6] at H
              have c6b0 : decide ((l1.length : Int) ≤ ((rd_T37 l0 x7_1).f2)) = true := decide_eq_true c6
              clear c6
              simp only [Option.some.injEq, Prod.mk.injEq] at H
              obtain ⟨rfl, rfl⟩ := H
              have p171 : 0 ≤ (x7_1 : Int) := of_decide_eq_true (by first | (with_reducible assumption) | assumption)
              have q171 : x7_1 < (l0.length : Int) := of_decide_eq_true (by first | (with_reducible assumption) | assumption)
              obtain ⟨ad171, A171_3, c171_3, e171, hx171_0, hx171_1, hx171_2, hx171_3, hx171_4, hl171_3, hi171_3⟩ := at_T37 HR0.out x7_1 p171 q171
              cases e171
              replace hx171_0 := (HB.out.cell (World.block_lt_of_cell? w _ hx171_0)).trans hx171_0
              replace hx171_1 := (HB.out.cell (World.block_lt_of_cell? w _ hx171_1)).trans hx171_1
              replace hx171_2 := (HB.out.cell (World.block_lt_of_cell? w _ hx171_2)).trans hx171_2
              replace hx171_3 := (HB.out.cell (World.block_lt_of_cell? w _ hx171_3)).trans hx171_3
              replace hx171_4 := (HB.out.cell (World.block_lt_of_cell? w _ hx171_4)).trans hx171_4
              have HR171_3 := Aside0.mk hi171_3
              have HC171_3 := Aside0.mk hl171_3
              clear hi171_3 hl171_3
              replace p171 := eq_true p171
              replace q171 := eq_true q171
              have p172 : 0 ≤ (x7_1 : Int) := of_decide_eq_true (by first | (with_reducible assumption) | assumption)
              have q172 : x7_1 < (l0.length : Int) := of_decide_eq_true (by first | (with_reducible assumption) | assumption)
              obtain ⟨ad172, A172_3, c172_3, e172, hx172_0, hx172_1, hx172_2, hx172_3, hx172_4, hl172_3, hi172_3⟩ := at_T37 HR0.out x7_1 p172 q172
              obtain rfl : ad171 = ad172 := (by injection e172)
              replace hx172_0 := (HB.out.cell (World.block_lt_of_cell? w _ hx172_0)).trans hx172_0
              replace hx172_1 := (HB.out.cell (World.block_lt_of_cell? w _ hx172_1)).trans hx172_1
              replace hx172_2 := (HB.out.cell (World.block_lt_of_cell? w _ hx172_2)).trans hx172_2
              replace hx172_3 := (HB.out.cell (World.block_lt_of_cell? w _ hx172_3)).trans hx172_3
              replace hx172_4 := (HB.out.cell (World.block_lt_of_cell? w _ hx172_4)).trans hx172_4
              have HR172_3 := Aside0.mk hi172_3
              have HC172_3 := Aside0.mk hl172_3
              clear hi172_3 hl172_3
              replace p172 := eq_true p172
              replace q172 := eq_true q172
              have ea_ := Option.some.inj (hx171_3.symm.trans hx172_3)
              injection ea_ with ea_ en_ ec_
              subst ea_
              subst ec_
              clear en_
              go_wp2
              go_ret2
              exact ⟨_, by first | rfl | (simp [errW_none, errW_some] <;> rfl) | (simp [*, errW_none, errW_some] <;> rfl), by first | exact Kd.R_nil _ _ _ _ _ | exact Kd.N_nil _ _ _ _ _ | exact Kd.V_nil _ _ _ _ _ | exact Kd.Q_nil _ _ _ _ _ | exact Kd.S_nil _ _ _ _ _, by repeat (first | (with_reducible first | exact HB.out | apply below_alloc | apply pw_below_drewN | apply below_drew1) | exact HB.out)⟩
            · rw [if_neg c6] at H
              have c6b0 : decide ((l1.length : Int) ≤ ((rd_T37 l0 x7_1).f2)) = false := decide_eq_false c6
              clear c6
              by_cases c7 : 0 ≤ ((rd_T37 l0 x7_1).f2)
              · rw [if_pos c7] at H
                have c7b0 : decide (0 ≤ ((rd_T37 l0 x7_1).f2)) = true := decide_eq_true c7
                clear c7
                by_cases c8 : ((rd_T37 l0 x7_1).f2) < (l1.length : Int)
                · rw [if_pos c8] at H
                  have c8b0 : decide (((rd_T37 l0 x7_1).f2) < (l1.length : Int)) = true := decide_eq_true c8
                  clear c8
                  by_cases c9 : x6_1.length < 17592186044416
                  · rw [if_pos c9] at H
                    have LMc9 := Aside0.mk c9
                    clear c9
                    obtain ⟨y175, hy175⟩ : ∃ y_ : List Int, y_ = (x6_1 ++ [(rd_T46 l1 ((rd_T37 l0 x7_1).f2)).f0]) := ⟨_, rfl⟩
                    replace H : (swarfref28_Tools.l0 k1 l0 l1 y175 (wrap64 (x7_1 + 1))) = some (r1, r2) := by first | (rw [hy175]; with_reducible exact H) | (have H2_ := (Option.bind_some _ _).symm.trans H; rw [hy175]; with_reducible exact H2_) | (have H2_ := (Option.bind_some _ _).symm.trans H; with_reducible exact H2_) | with_reducible exact H | (rw [hy175]; exact H) | exact H
                    have Ny175 := Aside0.mk hy175
                    clear hy175
                    have H' := Aside0.mk H
                    clear H
                    have p171 : 0 ≤ (x7_1 : Int) := of_decide_eq_true (by first | (with_reducible assumption) | assumption)
                    have q171 : x7_1 < (l0.length : Int) := of_decide_eq_true (by first | (with_reducible assumption) | assumption)
                    obtain ⟨ad171, A171_3, c171_3, e171, hx171_0, hx171_1, hx171_2, hx171_3, hx171_4, hl171_3, hi171_3⟩ := at_T37 HR0.out x7_1 p171 q171
                    cases e171
                    replace hx171_0 := (HB.out.cell (World.block_lt_of_cell? w _ hx171_0)).trans hx171_0
                    replace hx171_1 := (HB.out.cell (World.block_lt_of_cell? w _ hx171_1)).trans hx171_1
                    replace hx171_2 := (HB.out.cell (World.block_lt_of_cell? w _ hx171_2)).trans hx171_2
                    replace hx171_3 := (HB.out.cell (World.block_lt_of_cell? w _ hx171_3)).trans hx171_3
                    replace hx171_4 := (HB.out.cell (World.block_lt_of_cell? w _ hx171_4)).trans hx171_4
                    have HR171_3 := Aside0.mk hi171_3
                    have HC171_3 := Aside0.mk hl171_3
                    clear hi171_3 hl171_3
                    replace p171 := eq_true p171
                    replace q171 := eq_true q171
                    have p172 : 0 ≤ (x7_1 : Int) := of_decide_eq_true (by first | (with_reducible assumption) | assumption)
                    have q172 : x7_1 < (l0.length : Int) := of_decide_eq_true (by first | (with_reducible assumption) | assumption)
                    obtain ⟨ad172, A172_3, c172_3, e172, hx172_0, hx172_1, hx172_2, hx172_3, hx172_4, hl172_3, hi172_3⟩ := at_T37 HR0.out x7_1 p172 q172
                    obtain rfl : ad171 = ad172 := (by injection e172)
                    replace hx172_0 := (HB.out.cell (World.block_lt_of_cell? w _ hx172_0)).trans hx172_0
                    replace hx172_1 := (HB.out.cell (World.block_lt_of_cell? w _ hx172_1)).trans hx172_1
                    replace hx172_2 := (HB.out.cell (World.block_lt_of_cell? w _ hx172_2)).trans hx172_2
                    replace hx172_3 := (HB.out.cell (World.block_lt_of_cell? w _ hx172_3)).trans hx172_3
                    replace hx172_4 := (HB.out.cell (World.block_lt_of_cell? w _ hx172_4)).trans hx172_4
                    have HR172_3 := Aside0.mk hi172_3
                    have HC172_3 := Aside0.mk hl172_3
                    clear hi172_3 hl172_3
                    replace p172 := eq_true p172
                    replace q172 := eq_true q172
                    have ea_ := Option.some.inj (hx171_3.symm.trans hx172_3)
                    injection ea_ with ea_ en_ ec_
                    subst ea_
                    subst ec_
                    clear en_
                    have p173 : 0 ≤ (x7_1 : Int) := of_decide_eq_true (by first | (with_reducible assumption) | assumption)
                    have q173 : x7_1 < (l0.length : Int) := of_decide_eq_true (by first | (with_reducible assumption) | assumption)
                    obtain ⟨ad173, A173_3, c173_3, e173, hx173_0, hx173_1, hx173_2, hx173_3, hx173_4, hl173_3, hi173_3⟩ := at_T37 HR0.out x7_1 p173 q173
                    obtain rfl : ad171 = ad173 := (by injection e173)
                    replace hx173_0 := (HB.out.cell (World.block_lt_of_cell? w _ hx173_0)).trans hx173_0
                    replace hx173_1 := (HB.out.cell (World.block_lt_of_cell? w _ hx173_1)).trans hx173_1
                    replace hx173_2 := (HB.out.cell (World.block_lt_of_cell? w _ hx173_2)).trans hx173_2
                    replace hx173_3 := (HB.out.cell (World.block_lt_of_cell? w _ hx173_3)).trans hx173_3
                    replace hx173_4 := (HB.out.cell (World.block_lt_of_cell? w _ hx173_4)).trans hx173_4
                    have HR173_3 := Aside0.mk hi173_3
                    have HC173_3 := Aside0.mk hl173_3
                    clear hi173_3 hl173_3
                    replace p173 := eq_true p173
                    replace q173 := eq_true q173
                    have ea_ := Option.some.inj (hx171_3.symm.trans hx173_3)
                    injection ea_ with ea_ en_ ec_
                    subst ea_
                    subst ec_
                    clear en_
                    have p174 : 0 ≤ (((rd_T37 l0 x7_1).f2) : Int) := of_decide_eq_true (by first | (with_reducible assumption) | assumption)
                    have q174 : ((rd_T37 l0 x7_1).f2) < (l1.length : Int) := of_decide_eq_true (by first | (with_reducible assumption) | assumption)
                    obtain ⟨ad174, e174, hx174_0, hx174_1, hx174_2, hx174_3, hx174_4, hx174_5, hx174_6, hx174_7⟩ := at_T46 HR1.out ((rd_T37 l0 x7_1).f2) p174 q174
                    cases e174
                    replace hx174_0 := (HB.out.cell (World.block_lt_of_cell? w _ hx174_0)).trans hx174_0
                    replace hx174_1 := (HB.out.cell (World.block_lt_of_cell? w _ hx174_1)).trans hx174_1
                    replace hx174_2 := (HB.out.cell (World.block_lt_of_cell? w _ hx174_2)).trans hx174_2
                    replace hx174_3 := (HB.out.cell (World.block_lt_of_cell? w _ hx174_3)).trans hx174_3
                    replace hx174_4 := (HB.out.cell (World.block_lt_of_cell? w _ hx174_4)).trans hx174_4
                    replace hx174_5 := (HB.out.cell (World.block_lt_of_cell? w _ hx174_5)).trans hx174_5
                    replace hx174_6 := (HB.out.cell (World.block_lt_of_cell? w _ hx174_6)).trans hx174_6
                    replace hx174_7 := (HB.out.cell (World.block_lt_of_cell? w _ hx174_7)).trans hx174_7
                    replace p174 := eq_true p174
                    replace q174 := eq_true q174
                    go_wp2_with (first | ((with_reducible refine gate_builtin (b := .append) (xs := #[.tmp 30, .tmp 40]) rfl ?_); (try (refine gate_guard (by rfl) ?_; dsimp only)); at_builtin; refine Kd.R_append (Kd.int .i64) (w0 := w) w.heap.size rfl (.tmp 30) (.tmp 40) 41 3 (.int .i64 0) 8 rfl Tryd.underlying41 info3 rfl (by decide) (by omega) u6 x6_1 ((rd_T46 l1 ((rd_T37 l0 x7_1).f2)).f0) [.int .i64 ((rd_T46 l1 ((rd_T37 l0 x7_1).f2)).f0)] (fun _ => True) (fun _ => False) rfl rfl ?aP (fun _ hk => hk.elim) ?aF ?aO ?aB ?aS ?aL ?_; (case aP => exact rfl); (case aB => exact (by repeat (first | (with_reducible first | exact HB.out | apply below_alloc | apply pw_below_drewN | apply below_drew1) | exact HB.out))); (case aF => exact (fun _ _ => trivial)); (case aO => exact (by (with_reducible repeat (first | apply Kd.R_alloc | apply Kd.R_drewN | apply Kd.R_drew)); exact HO_6.out)); (case aS => exact (below_size (by repeat (first | (with_reducible first | exact HB.out | apply below_alloc | apply pw_below_drewN | apply below_drew1) | exact HB.out)))); (case aL => have := LMc9.out; omega); intro v176 w10 ho hb hg hat; rw [← Ny175.out] at ho; have n0_ := Aside0.mk (hb); have n1_ := Aside0.mk (ho); clear HB; clear HO_6; have HB := n0_; have HO177 := n1_; clear n0_ n1_; clear ho hb hg hat))
                    go_roundg k1
                    case measure => have := HK1.out; omega
                    case rel => exact ⟨(y175), (wrap64 (x7_1 + 1)), (by first | rfl | (simp; done) | (simp [*]; done)), H', ⟨by have := HK1.out; omega⟩, ⟨by (with_reducible repeat (first | apply Kd.R_alloc | apply Kd.R_drewN | apply Kd.R_drew)); exact HO177.out⟩, ⟨by repeat (first | (with_reducible first | exact HB.out | apply below_alloc | apply pw_below_drewN | apply below_drew1) | exact HB.out)⟩⟩
                  · rw [if_neg c9] at H
                    exact absurd H (by simp)
                · rw [if_neg c8] at H
                  exact absurd H (by simp)
              · rw [if_neg c7] at H
                exact absurd H (by simp)
        · rw [if_neg c4] at H
          exact absurd H (by simp)
      · rw [if_neg c3] at H
        have c3b0 : decide (x7_1 < (l0.length : Int)) = false := decide_eq_false c3
        clear c3
        simp only [Option.some.injEq, Prod.mk.injEq] at H
        obtain ⟨rfl, rfl⟩ := H
        go_wp2
        go_ret2
        exact ⟨_, by first | rfl | (simp [errW_none, errW_some] <;> rfl) | (simp [*, errW_none, errW_some] <;> rfl), by (with_reducible repeat (first | apply Kd.R_alloc | apply Kd.R_drewN | apply Kd.R_drew)); exact HO_6.out, by repeat (first | (with_reducible first | exact HB.out | apply below_alloc | apply pw_below_drewN | apply below_drew1) | exact HB.out)⟩

/-! ### slices_Equal_int_int: function 22 -/
def slices_Equal_int_int.l0 : Nat → List Int → List Int → Int → Int → Option (Bool)
  | 0, _, _, _, _ => none
  | k + 1, x0, x1, x12, x13 => if x13 < x12 then (if 0 ≤ x13 then (if x13 < (x0.length : Int) then (if x13 < (x1.length : Int) then (if (rd x0 x13) = (rd x1 x13) then (slices_Equal_int_int.l0 k x0 x1 x12 (wrap64 (x13 + 1))) else (some false)) else (none)) else (none)) else (none)) else (some true)
def slices_Equal_int_int.f (k : Nat) (l0 : List Int) (l1 : List Int) : Option (Bool) := if (l0.length : Int) = (l1.length : Int) then (slices_Equal_int_int.l0 k l0 l1 (l0.length : Int) 0) else (some false)
theorem slices_Equal_int_int.mono_l : ∀ k, (∀ y0 y1 y2 y3, LeO (slices_Equal_int_int.l0 k y0 y1 y2 y3) (slices_Equal_int_int.l0 (k + 1) y0 y1 y2 y3))
  | 0 => fun _ _ _ _ r h => by simp [slices_Equal_int_int.l0] at h
  | k + 1 => by
    have ih0 := slices_Equal_int_int.mono_l k
    · intro y0 y1 y2 y3
      unfold slices_Equal_int_int.l0
      repeat' first
      | (with_reducible exact ih0 _ _ _ _)
      | (with_reducible exact LeO.refl _)
      | (with_reducible exact LeO.none _)
      | (with_reducible refine LeO.ite ?_ ?_)
      | (with_reducible refine LeO.bind ?_ (fun _ => ?_))
      | exact ih0 _ _ _ _
      | exact LeO.none _
      | refine LeO.ite ?_ ?_
      | refine LeO.bind ?_ (fun _ => ?_)
theorem slices_Equal_int_int.mono : ∀ a0 a1 k, LeO (slices_Equal_int_int.f k a0 a1) (slices_Equal_int_int.f (k + 1) a0 a1) := by
  intro a0 a1 k
  have ih0 := slices_Equal_int_int.mono_l k
  unfold slices_Equal_int_int.f
  repeat' first
      | (with_reducible exact ih0 _ _ _ _)
      | (with_reducible exact LeO.refl _)
      | (with_reducible exact LeO.none _)
      | (with_reducible refine LeO.ite ?_ ?_)
      | (with_reducible refine LeO.bind ?_ (fun _ => ?_))
      | exact ih0 _ _ _ _
      | exact LeO.none _
      | refine LeO.ite ?_ ?_
      | refine LeO.bind ?_ (fun _ => ?_)
set_option maxHeartbeats 8000000 in
set_option maxRecDepth 100000 in
theorem slices_Equal_int_int.calls (k : Nat) (A0 : Option Addr) (c0 : Nat) (l0 : List Int) (A1 : Option Addr) (c1 : Nat) (l1 : List Int) (r : Bool) (w : World) (hr0 : Kd.C (Kd.int .i64) w A0 l0.length l0) (hc0 : l0.length ≤ c0) (hr1 : Kd.C (Kd.int .i64) w A1 l1.length l1) (hc1 : l1.length ≤ c1) (h : slices_Equal_int_int.f k l0 l1 = some r) :
    Calls Tryd.prog 22 #[.slice A0 l0.length c0, .slice A1 l1.length c1] w fun e w' => e = .returned (.bool r) ∧ Drawn0 w w' := by
  have HR0 := Aside0.mk hr0
  have HC0 := Aside0.mk hc0
  clear hr0 hc0
  have HR1 := Aside0.mk hr1
  have HC1 := Aside0.mk hc1
  clear hr1 hc1
  have H : (if (l0.length : Int) = (l1.length : Int) then (slices_Equal_int_int.l0 k l0 l1 (l0.length : Int) 0) else (some false)) = some r := h
  clear h
  by_cases c3 : (l0.length : Int) = (l1.length : Int)
  · rw [if_pos c3] at H
    have c3b0 : ((l0.length : Int) == (l1.length : Int)) = true := beq_iff_eq.mpr c3
    have c3b1 : ((l0.length : Int) != (l1.length : Int)) = false := bne_eq_false_iff_eq.mpr c3
    have c3b2 : (l0.length == l1.length) = true := by first | simpa using c3 | (simp at c3 ⊢; omega)
    clear c3
    have H' := Aside0.mk H
    clear H
    go_enter Tryd.func22, Tryd.ntmps22
    go_wp2
    repeat (go_quiet (fail); try go_wp2)
    go_loopg [13] k (fun kq v13 w' => ∃ (x13_1 : Int), v13 = .int .i64 x13_1 ∧ Aside0 (slices_Equal_int_int.l0 kq l0 l1 (l0.length : Int) x13_1 = some r) ∧ Aside0 (kq ≤ k) ∧ Drawn0 w w')
    case atStart => exact ⟨(0), (by first | rfl | (simp; done) | (simp [*]; done)), H', ⟨Nat.le_refl _⟩, by repeat (first | exact Drawn0.refl _ | apply Drawn0.step)⟩
    case round =>
      clear H'
      try clear c1
      try clear c2
      try clear p2
      try clear c3
      try clear c3b0
      try clear c3b1
      try clear c3b2
      obtain ⟨x13_1, rfl, HA, HK1, ⟨m1, rfl⟩⟩ := hrel
      cases gk with
      | zero => exact absurd HA.out (by simp [slices_Equal_int_int.l0])
      | succ k1 =>
        have H := HA.out
        clear HA
        simp only [slices_Equal_int_int.l0] at H
        by_cases c4 : x13_1 < (l0.length : Int)
        · rw [if_pos c4] at H
          have c4b0 : decide (x13_1 < (l0.length : Int)) = true := decide_eq_true c4
          clear c4
          by_cases c5 : 0 ≤ x13_1
          · rw [if_pos c5] at H
            have c5b0 : decide (0 ≤ x13_1) = true := decide_eq_true c5
            clear c5
            by_cases c6 : x13_1 < (l0.length : Int)
            · rw [if_pos c6] at H
              have c6b0 : decide (x13_1 < (l0.length : Int)) = true := decide_eq_true c6
              clear c6
              by_cases c7 : x13_1 < (l1.length : Int)
              · rw [if_pos c7] at H
                have c7b0 : decide (x13_1 < (l1.length : Int)) = true := decide_eq_true c7
                clear c7
                by_cases c8 : (rd l0 x13_1) = (rd l1 x13_1)
                · rw [if_pos c8] at H
                  have c8b0 : ((rd l0 x13_1) == (rd l1 x13_1)) = true := beq_iff_eq.mpr c8
                  have c8b1 : ((rd l0 x13_1) != (rd l1 x13_1)) = false := bne_eq_false_iff_eq.mpr c8
                  clear c8
                  have H' := Aside0.mk H
                  clear H
                  have p178 : 0 ≤ (x13_1 : Int) := of_decide_eq_true (by first | (with_reducible assumption) | assumption)
                  have q178 : x13_1 < (l0.length : Int) := of_decide_eq_true (by first | (with_reducible assumption) | assumption)
                  obtain ⟨ad178, e178, hx178_0⟩ := Kd.at_int HR0.out x13_1 p178 q178
                  cases e178
                  replace p178 := eq_true p178
                  replace q178 := eq_true q178
                  have p179 : 0 ≤ (x13_1 : Int) := of_decide_eq_true (by first | (with_reducible assumption) | assumption)
                  have q179 : x13_1 < (l1.length : Int) := of_decide_eq_true (by first | (with_reducible assumption) | assumption)
                  obtain ⟨ad179, e179, hx179_0⟩ := Kd.at_int HR1.out x13_1 p179 q179
                  cases e179
                  replace p179 := eq_true p179
                  replace q179 := eq_true q179
                  go_wp2
                  repeat (go_quiet (fail); try go_wp2)
                  go_roundg k1
                  case measure => have := HK1.out; omega
                  case rel => exact ⟨(wrap64 (x13_1 + 1)), (by first | rfl | (simp; done) | (simp [*]; done)), H', ⟨by have := HK1.out; omega⟩, by repeat (first | exact Drawn0.refl _ | apply Drawn0.step)⟩
                · rw [if_neg c8] at H
                  have c8b0 : ((rd l0 x13_1) == (rd l1 x13_1)) = false := beq_eq_false_iff_ne.mpr c8
                  have c8b1 : ((rd l0 x13_1) != (rd l1 x13_1)) = true := bne_iff_ne.mpr c8
                  obtain rfl := Option.some.inj H
                  have p178 : 0 ≤ (x13_1 : Int) := of_decide_eq_true (by first | (with_reducible assumption) | assumption)
                  have q178 : x13_1 < (l0.length : Int) := of_decide_eq_true (by first | (with_reducible assumption) | assumption)
                  obtain ⟨ad178, e178, hx178_0⟩ := Kd.at_int HR0.out x13_1 p178 q178
                  cases e178
                  replace p178 := eq_true p178
                  replace q178 := eq_true q178
                  have p179 : 0 ≤ (x13_1 : Int) := of_decide_eq_true (by first | (with_reducible assumption) | assumption)
                  have q179 : x13_1 < (l1.length : Int) := of_decide_eq_true (by first | (with_reducible assumption) | assumption)
                  obtain ⟨ad179, e179, hx179_0⟩ := Kd.at_int HR1.out x13_1 p179 q179
                  cases e179
                  replace p179 := eq_true p179
                  replace q179 := eq_true q179
                  go_wp2
                  repeat (go_quiet (fail); try go_wp2)
                  go_ret
                  exact ⟨by first | rfl | (simp; done) | (simp [*]; done), by repeat (first | exact Drawn0.refl _ | apply Drawn0.step)⟩
              · rw [if_neg c7] at H
                exact absurd H (by simp)
            · rw [if_neg c6] at H
              exact absurd H (by simp)
          · rw [if_neg c5] at H
            exact absurd H (by simp)
        · rw [if_neg c4] at H
          have c4b0 : decide (x13_1 < (l0.length : Int)) = false := decide_eq_false c4
          clear c4
          obtain rfl := Option.some.inj H
          go_wp2
          repeat (go_quiet (fail); try go_wp2)
          go_ret
          exact ⟨by first | rfl | (simp; done) | (simp [*]; done), by repeat (first | exact Drawn0.refl _ | apply Drawn0.step)⟩
  · rw [if_neg c3] at H
    have c3b0 : ((l0.length : Int) == (l1.length : Int)) = false := beq_eq_false_iff_ne.mpr c3
    have c3b1 : ((l0.length : Int) != (l1.length : Int)) = true := bne_iff_ne.mpr c3
    have c3b2 : (l0.length == l1.length) = false := by first | simpa using c3 | (simp at c3 ⊢; omega)
    obtain rfl := Option.some.inj H
    go_enter Tryd.func22, Tryd.ntmps22
    go_wp2
    repeat (go_quiet (fail); try go_wp2)
    go_ret
    exact ⟨by first | rfl | (simp; done) | (simp [*]; done), by repeat (first | exact Drawn0.refl _ | apply Drawn0.step)⟩

/-! ### operation_Format: function 17 -/
open Go.Proofs.Tryd (Bld TabOk)
set_option maxHeartbeats 200000
def knm (k : Int) : ByteArray := if k = 1 then ⟨#[114, 111, 117, 103, 104]⟩ else if k = 2 then ⟨#[102, 105, 110, 105, 115, 104]⟩ else if k = 3 then ⟨#[100, 114, 105, 108, 108]⟩ else if k = 4 then ⟨#[100, 101, 98, 117, 114, 114]⟩ else if k = 5 then ⟨#[99, 117, 116, 111, 102, 102]⟩ else ⟨#[]⟩
def nmq (k : Int) : List UInt8 := if (knm k).toList = [] then [63] else (knm k).data.toList
theorem kind_f (k : Int) : operation_KindName.f k = some (knm k) := by
  unfold operation_KindName.f operation_names.f
  by_cases h0 : k < 0
  · rw [if_pos h0]; unfold knm
    rw [if_neg (by omega), if_neg (by omega), if_neg (by omega), if_neg (by omega), if_neg (by omega)]
  · rw [if_neg h0]
    simp only [Option.bind_some, List.length_cons, List.length_nil]
    by_cases h6 : k ≥ 6
    · rw [if_pos (by omega)]; unfold knm
      rw [if_neg (by omega), if_neg (by omega), if_neg (by omega), if_neg (by omega), if_neg (by omega)]
    · rw [if_neg (by omega), if_pos (by omega), if_pos (by omega)]
      have : k = 0 ∨ k = 1 ∨ k = 2 ∨ k = 3 ∨ k = 4 ∨ k = 5 := by omega
      rcases this with rfl | rfl | rfl | rfl | rfl | rfl <;> rfl
def headN (n : List UInt8) (o : S37) : List UInt8 := n ++ [32, 102, 101, 97, 116, 117, 114, 101, 32] ++ Lib.itoa o.f1 ++ [32, 116, 111, 111, 108, 32] ++ Lib.itoa o.f2 ++ [32, 108, 101, 97, 118, 101, 32] ++ Lib.itoa o.f4 ++ [32, 100, 101, 112, 116, 104, 115]
def head (o : S37) : List UInt8 := headN (nmq o.f0) o
def nums_ (l : List Int) : List UInt8 := l.flatMap fun d => 32 :: Lib.itoa d
def line (o : S37) : List UInt8 := head o ++ nums_ o.f3 ++ [10]
def fmtOps (l : List S37) : List UInt8 := l.flatMap line
def in64 (n : Int) : Prop := -9223372036854775808 ≤ n ∧ n ≤ 9223372036854775807
def OkOp (o : S37) : Prop := in64 o.f0 ∧ in64 o.f1 ∧ in64 o.f2 ∧ in64 o.f4 ∧ ∀ d ∈ o.f3, in64 d
theorem Bld.below {B b : Nat} {l : List UInt8} {w w' : World} (h : Bld B b l w) (hb : Below w.heap.size w w') : Bld B b l w' := by
  have key : ∀ p, Lib.BuilderAtF 55 5 B b p (Lib.byteCells l) w → Lib.BuilderAtF 55 5 B b p (Lib.byteCells l) w' := by
    rintro p ⟨hB, v, hbk, hown, hne⟩
    refine ⟨hB, v, (hb.block b (Array.getElem?_eq_some_iff.1 hbk).1).trans hbk, hown.kept (row := none) (grown_of_below hb none) ?_, hne⟩
    cases h : v.ownBlock with
    | none => exact .inl rfl
    | some k => exact .inr (by simp)
  exact h.elim (fun x => .inl (key _ x)) (fun x => .inr (key _ x))
theorem Bld.lt {B b : Nat} {l : List UInt8} {w : World} (h : Bld B b l w) : b < w.heap.size := h.elim (fun x => x.lt) (fun x => x.lt)
theorem pw_cell_below' {w w1 : World} (h : Below w.heap.size w w1) {a : Addr} {v : Value} (hc : w.cell? a = some v) : w1.cell? a = some v := pw_cell_below h hc
theorem knm_size (k : Int) : (knm k).size ≤ 6 := by
  unfold knm
  by_cases h1 : k = 1
  · rw [if_pos h1]; decide
  rw [if_neg h1]
  by_cases h2 : k = 2
  · rw [if_pos h2]; decide
  rw [if_neg h2]
  by_cases h3 : k = 3
  · rw [if_pos h3]; decide
  rw [if_neg h3]
  by_cases h4 : k = 4
  · rw [if_pos h4]; decide
  rw [if_neg h4]
  by_cases h5 : k = 5
  · rw [if_pos h5]; decide
  rw [if_neg h5]; decide
theorem Bld.cast {B b : Nat} {l m : List UInt8} {s : ByteArray} {w : World} (h : Bld B b (l ++ s.data.toList) w) (hs : s.data.toList = m) : Bld B b (l ++ m) w := hs ▸ h
theorem wbelow {w wr wc w1 w2 : World} (h1 : Below w.heap.size w wr) (h2 : Below wr.heap.size wr wc) (h3 : Below wc.heap.size wc w1) (h4 : Below w.heap.size w1 w2) : Below w.heap.size w w2 :=
  ((h1.trans (h2.mono h1.size)).trans (h3.mono (Nat.le_trans h1.size h2.size))).trans h4
theorem rdi_mem (l : List Int) (k : Nat) (h : k < l.length) : rd l k ∈ l := by
  unfold rd; rw [Int.toNat_natCast, List.getD_eq_getElem?_getD, List.getElem?_eq_getElem h]; exact List.getElem_mem h
theorem rd_mem (l : List S37) (k : Nat) (h : k < l.length) : rd_T37 l k ∈ l := by
  unfold rd_T37; rw [Int.toNat_natCast, List.getD_eq_getElem?_getD, List.getElem?_eq_getElem h]; exact List.getElem_mem h
def ob (o : S37) (A3 : Option Addr) (c3 : Nat) : Obj := .cells #[.int .i64 o.f0, .int .i64 o.f1, .int .i64 o.f2, .slice A3 o.f3.length c3, .int .i64 o.f4] 37 (0, 0)
theorem cells_of {w' : World} {g : Nat} {o : S37} {A3 : Option Addr} {c3 : Nat} (h : w'.heap[g]? = some (ob o A3 c3)) :
    w'.cell? ⟨g, 1, none⟩ = some (.int .i64 o.f1) ∧ w'.cell? ⟨g, 2, none⟩ = some (.int .i64 o.f2) ∧ w'.cell? ⟨g, 4, none⟩ = some (.int .i64 o.f4) ∧ w'.heap[g]? = some (ob o A3 c3) :=
  ⟨by rw [blk_cell (by exact h)]; rfl, by rw [blk_cell (by exact h)]; rfl, by rw [blk_cell (by exact h)]; rfl, h⟩
theorem ob_others {w1 w' : World} {g b : Nat} {o : S37} {A3 : Option Addr} {c3 : Nat} (hk : Lib.OthersKept 5 (some b) w1 w') (hg : g ≠ b) (h : w1.heap[g]? = some (ob o A3 c3)) : w'.heap[g]? = some (ob o A3 c3) :=
  hk g _ h (by simpa using hg) (by intro c fz e; cases e)
theorem len_of {s : ByteArray} {l : List UInt8} {n B : Nat} (H : n + l.length ≤ B) (hs : s.data.toList = l) : n + s.size ≤ B := by
  have : s.size = l.length := by rw [← hs, Array.length_toList]; rfl
  omega
theorem fmt_take (l : List S37) (k : Nat) (h : k < l.length) : fmtOps (l.take (k + 1)) = fmtOps (l.take k) ++ line (rd_T37 l k) := by
  unfold fmtOps rd_T37; rw [Int.toNat_natCast, List.take_add_one, List.getElem?_eq_getElem h, List.flatMap_append, List.getD_eq_getElem?_getD, List.getElem?_eq_getElem h]; simp
theorem fmt_le (l : List S37) (k : Nat) : (fmtOps (l.take k)).length ≤ (fmtOps l).length := by
  have e : fmtOps l = fmtOps (l.take k) ++ fmtOps (l.drop k) := by unfold fmtOps; rw [← List.flatMap_append, List.take_append_drop]
  rw [e, List.length_append]; omega
theorem nums_take (l : List Int) (j : Nat) (h : j < l.length) : nums_ (l.take (j + 1)) = nums_ (l.take j) ++ (32 :: Lib.itoa (rd l j)) := by
  unfold nums_ rd; rw [Int.toNat_natCast, List.take_add_one, List.getElem?_eq_getElem h, List.flatMap_append, List.getD_eq_getElem?_getD, List.getElem?_eq_getElem h]; simp
theorem nums_le (l : List Int) (k : Nat) : (nums_ (l.take k)).length ≤ (nums_ l).length := by
  have e : nums_ l = nums_ (l.take k) ++ nums_ (l.drop k) := by unfold nums_; rw [← List.flatMap_append, List.take_append_drop]
  rw [e, List.length_append]; omega
theorem itoa_sz {n : Int} (h : in64 n) : (⟨(Lib.itoa n).toArray⟩ : ByteArray).size ≤ 21 := Lib.itoa_length_le n h.1 h.2
theorem add_fact (a b : ByteArray) (W : World) (h : a.size + b.size ≤ 1000) : (Op.stringOp .add a b).run Tryd.prog W = .ok (.string (a ++ b)) W := run_string_add_sum W a b (by omega)
theorem itoa_le {n : Int} (h : in64 n) : (Lib.itoa n).length ≤ 21 := Lib.itoa_length_le n h.1 h.2
set_option maxHeartbeats 4000000 in
set_option maxRecDepth 100000 in
theorem operation_Format.walk (A0 : Option Addr) (c0 : Nat) (l0 : List S37) (w : World) (hr0 : Kd.C k37 w A0 l0.length l0) (hc0 : l0.length ≤ c0) (hlen : (fmtOps l0).length ≤ 140737488355328) (hok : ∀ o ∈ l0, OkOp o) (hT : TabOk w) :
    Calls Tryd.prog 17 #[.slice A0 l0.length c0] w fun e w' => e = .returned (.string ⟨(fmtOps l0).toArray⟩) ∧ Below w.heap.size w w' := by
  have HL := Lib.hid hlen; clear hlen
  have HK := Lib.hid hok; clear hok
  have HR0 := Aside0.mk hr0
  have HC0 := Aside0.mk hc0
  clear hr0 hc0
  have HB0 := Lib.hid (show Bld w.heap.size w.heap.size [] (w.alloc (.cells #[.pointer none, .slice none 0 0] 55)) from Lib.IsBuilderF.of (Lib.fresh_isBuilder 55 5 w))
  go_enter Tryd.func17, Tryd.ntmps17
  go_wp2
  go_loopw [11] (fun v11 wr => ∃ k : Nat, k ≤ l0.length ∧ v11 = .int .i64 k ∧ Bld w.heap.size w.heap.size (fmtOps (l0.take k)) wr ∧ Below w.heap.size w wr) (fun v11 _ => l0.length - (intOf v11).toNat)
  case atStart => exact ⟨0, Nat.zero_le _, rfl, HB0.out, (Below.refl _ _).alloc (Nat.le_refl _) _⟩
  case round =>
    obtain ⟨k, hk, rfl, hbld, hb⟩ := hrel
    clear HB0
    have HBl := Lib.hid hbld; clear hbld
    by_cases hlt : k < l0.length
    · have p1 : (0 : Int) ≤ (k : Int) := by omega
      have q1 : (k : Int) < (l0.length : Int) := by omega
      obtain ⟨ad, A3, c3, eA, hx0, hx1, hx2, hx3, hx4, hl3, hi3⟩ := at_T37 HR0.out k p1 q1
      cases eA
      have HL3 := Aside0.mk hl3
      have HI3 := Aside0.mk hi3
      clear hl3 hi3
      obtain ⟨o, ho⟩ : ∃ o : S37, o = rd_T37 l0 k := ⟨_, rfl⟩
      rw [← ho] at hx0 hx1 hx2 hx3 hx4 HL3 HI3
      simp only [Int.toNat_natCast] at hx0 hx1 hx2 hx3 hx4
      have y0 := pw_cell_below' hb hx0
      have y1 := pw_cell_below' hb hx1
      have y2 := pw_cell_below' hb hx2
      have y3 := pw_cell_below' hb hx3
      have y4 := pw_cell_below' hb hx4
      clear hx0 hx1 hx2 hx3 hx4
      have HO := Lib.hid ho; clear ho
      have HF := Lib.hid (HK.out o (by rw [HO.out]; exact rd_mem l0 k hlt))
      have HFT := Lib.hid (fmt_take l0 k hlt)
      have HLEN := Lib.hid (show (fmtOps (l0.take k)).length + (head o ++ nums_ o.f3 ++ [10]).length ≤ 140737488355328 from by
        have h1 := fmt_le l0 (k + 1); rw [HFT.out, ← HO.out, List.length_append] at h1; unfold line at h1; have := HL.out; omega)
      have HBb := Lib.hid hb; clear hb
      obtain ⟨nm, hnm⟩ : ∃ nm, nm = knm o.f0 := ⟨_, rfl⟩
      have HN := Lib.hid hnm; clear hnm
      have HKF := Lib.hid (show operation_KindName.f o.f0 = some nm by rw [HN.out]; exact kind_f _)
      have LK : nm.size ≤ 6 := by rw [HN.out]; exact knm_size _
      have HQ : Hid (nmq o.f0 = if nm.toList.isEmpty then [63] else nm.data.toList) := Lib.hid (by unfold nmq; rw [← HN.out]; simp only [List.isEmpty_iff])
      go_upto_if 19 with (go_at_call 23; (with_reducible refine (operation_KindName.calls _ nm _ HKF.out).mono ?_); rintro e w1 ⟨rfl, hb1⟩)
      go_cut [6] (fun v6 wc => ∃ s : ByteArray, v6 = .string s ∧ s.size ≤ 6 ∧ Hid (s.data.toList = nmq o.f0) ∧ wc = w1)
      case first =>
        clear y0 y1 y2 y3 y4
        go_wp2
        all_goals
          go_meet
        case rel => first | exact ⟨_, rfl, LK, Lib.hid (by rw [HQ.out, if_neg (by rw [‹nm.toList.isEmpty = false›]; decide)]), rfl⟩ | exact ⟨_, rfl, by decide, Lib.hid (by rw [HQ.out, if_pos ‹_›]), rfl⟩
        case rel => first | exact ⟨_, rfl, LK, Lib.hid (by rw [HQ.out, if_neg (by rw [‹nm.toList.isEmpty = false›]; decide)]), rfl⟩ | exact ⟨_, rfl, by decide, Lib.hid (by rw [HQ.out, if_pos ‹_›]), rfl⟩
      case rest =>
        clear LK
        obtain ⟨s, rfl, LS, HS, rfl⟩ := hcut
        have B1 : wc.heap[wr.heap.size]? = some (ob o A3 c3) := (hb1.block _ (by simp)).trans (heap_alloc_new wr _)
        have HB1 := Lib.hid ((below_alloc (Below.refl wr.heap.size wr) _).trans (hb1.mono (by simp))); clear hb1
        have HNE := Lib.hid (show wr.heap.size ≠ w.heap.size from fun e => by have := Bld.lt HBl.out; omega)
        have HG := Lib.hid (blk_lt B1)
        have HZ := Lib.hid (Nat.le_trans HBb.out.size HB1.out.size)
        have HT1 := Lib.hid (hT.below (HBb.out.trans (HB1.out.mono HBb.out.size)))
        have HBl1 := Lib.hid (Bld.below HBl.out HB1.out)
        have L1 := itoa_sz HF.out.2.1
        have L2 := itoa_sz HF.out.2.2.1
        have L4 := itoa_sz HF.out.2.2.2.1
        have KF : (⟨#[32, 102, 101, 97, 116, 117, 114, 101, 32]⟩ : ByteArray).size = 9 := rfl
        have KT : (⟨#[32, 116, 111, 111, 108, 32]⟩ : ByteArray).size = 6 := rfl
        have KL : (⟨#[32, 108, 101, 97, 118, 101, 32]⟩ : ByteArray).size = 7 := rfl
        have KD : (⟨#[32, 100, 101, 112, 116, 104, 115]⟩ : ByteArray).size = 7 := rfl
        have E1 := fun W => add_fact (s) ⟨#[32, 102, 101, 97, 116, 117, 114, 101, 32]⟩ W (by simp only [ByteArray.size_append, KF, KT, KL, KD]; omega)
        have E2 := fun W => add_fact (s ++ ⟨#[32, 102, 101, 97, 116, 117, 114, 101, 32]⟩) ⟨(Lib.itoa o.f1).toArray⟩ W (by simp only [ByteArray.size_append, KF, KT, KL, KD]; omega)
        have E3 := fun W => add_fact (s ++ ⟨#[32, 102, 101, 97, 116, 117, 114, 101, 32]⟩ ++ ⟨(Lib.itoa o.f1).toArray⟩) ⟨#[32, 116, 111, 111, 108, 32]⟩ W (by simp only [ByteArray.size_append, KF, KT, KL, KD]; omega)
        have E4 := fun W => add_fact (s ++ ⟨#[32, 102, 101, 97, 116, 117, 114, 101, 32]⟩ ++ ⟨(Lib.itoa o.f1).toArray⟩ ++ ⟨#[32, 116, 111, 111, 108, 32]⟩) ⟨(Lib.itoa o.f2).toArray⟩ W (by simp only [ByteArray.size_append, KF, KT, KL, KD]; omega)
        have E5 := fun W => add_fact (s ++ ⟨#[32, 102, 101, 97, 116, 117, 114, 101, 32]⟩ ++ ⟨(Lib.itoa o.f1).toArray⟩ ++ ⟨#[32, 116, 111, 111, 108, 32]⟩ ++ ⟨(Lib.itoa o.f2).toArray⟩) ⟨#[32, 108, 101, 97, 118, 101, 32]⟩ W (by simp only [ByteArray.size_append, KF, KT, KL, KD]; omega)
        have E6 := fun W => add_fact (s ++ ⟨#[32, 102, 101, 97, 116, 117, 114, 101, 32]⟩ ++ ⟨(Lib.itoa o.f1).toArray⟩ ++ ⟨#[32, 116, 111, 111, 108, 32]⟩ ++ ⟨(Lib.itoa o.f2).toArray⟩ ++ ⟨#[32, 108, 101, 97, 118, 101, 32]⟩) ⟨(Lib.itoa o.f4).toArray⟩ W (by simp only [ByteArray.size_append, KF, KT, KL, KD]; omega)
        have E7 := fun W => add_fact (s ++ ⟨#[32, 102, 101, 97, 116, 117, 114, 101, 32]⟩ ++ ⟨(Lib.itoa o.f1).toArray⟩ ++ ⟨#[32, 116, 111, 111, 108, 32]⟩ ++ ⟨(Lib.itoa o.f2).toArray⟩ ++ ⟨#[32, 108, 101, 97, 118, 101, 32]⟩ ++ ⟨(Lib.itoa o.f4).toArray⟩) ⟨#[32, 100, 101, 112, 116, 104, 115]⟩ W (by simp only [ByteArray.size_append, KF, KT, KL, KD]; omega)
        clear KF KT KL KD L1 L2 L4 LS
        have hd1 : Below wc.heap.size wc wc.drew := below_drew (Below.refl _ _)
        obtain ⟨c1, c2, c4, _⟩ := cells_of B1
        go_wp2_with fail
        go_region_held3 (fun w' => w'.cell? ⟨wr.heap.size, 1, none⟩ = some (.int .i64 o.f1) ∧ w'.cell? ⟨wr.heap.size, 2, none⟩ = some (.int .i64 o.f2) ∧ w'.cell? ⟨wr.heap.size, 4, none⟩ = some (.int .i64 o.f4) ∧ w'.heap[wr.heap.size]? = some (ob o A3 c3))
          (first
            | exact cells_of ((Below.block (by assumption) _ HG.out).trans B1)
            | exact cells_of (ob_others (by assumption) HNE.out (by assumption)))
          (first
            | (go_at_call 28; go_split_ands; refine (Tryd.Itoa_any _ (by first | exact HF.out.2.1.1 | exact HF.out.2.2.1.1) (by first | exact HF.out.2.1.2 | exact HF.out.2.2.1.2) _ (HT1.out.below (by assumption))).mono ?_; rintro e w' ⟨rfl, hb'⟩; have hb'' := below_then (B := wc.heap.size) (w := wc) (by assumption) (Below.size (by assumption)) hb'; clear hb')
            | (go_at_call 29; go_split_ands; refine (Tryd.FormatInt_any _ HF.out.2.2.2.1.1 HF.out.2.2.2.1.2 _ (HT1.out.below (by assumption))).mono ?_; rintro e w' ⟨rfl, hb'⟩; have hb'' := below_then (B := wc.heap.size) (w := wc) (by assumption) (Below.size (by assumption)) hb'; clear hb')
            | (go_at_call 27; go_split_ands; refine (Tryd.WriteString _ _ (fmtOps (l0.take k)) _ _ (Bld.below HBl1.out (by assumption)) (len_of (l := head o) (by have := HLEN.out; simp only [List.length_append] at this; omega) (by unfold head headN; rw [← HS.out]; simp)) (Nat.le_trans HZ.out (Below.size (w := wc) (by assumption)))).mono ?_; rintro e w' ⟨rfl, hbl', hb', hk'⟩; have hbl2 := Bld.cast (m := head o) hbl' (by unfold head headN; rw [← HS.out]; simp); have hb2 := wbelow HBb.out HB1.out (by assumption) hb'; clear hbl' hb'))
        clear E1 E2 E3 E4 E5 E6 E7 c1 c2 c4 B1 hd1
        have HBl2 := Lib.hid hbl2; clear hbl2
        go_split_ands
        have q3 : w'.cell? ⟨wr.heap.size, 3, none⟩ = some (.slice A3 o.f3.length c3) := by rw [blk_cell (show w'.heap[wr.heap.size]? = some (ob o A3 c3) by assumption)]; rfl
        have HB2 := Lib.hid hb2; clear hb2
        have HK2 := Lib.hid hk'; clear hk'
        go_wp2_with fail
        obtain ⟨wd, hwd⟩ : ∃ wd : World, wd = wr := ⟨_, rfl⟩
        clear hwd
        go_loopw [41] (fun v41 wq => ∃ j : Nat, j ≤ o.f3.length ∧ v41 = .int .i64 j ∧ Bld w.heap.size w.heap.size (fmtOps (l0.take k) ++ head o ++ nums_ (o.f3.take j)) wq ∧ Below w.heap.size w wq) (fun v41 _ => o.f3.length - (intOf v41).toNat)
        case atStart => exact ⟨0, Nat.zero_le _, rfl, by simpa [nums_] using HBl2.out, HB2.out⟩
        case round =>
          obtain ⟨j, hj, rfl, hbq, hwq⟩ := hrel
          clear q3
          have HBq := Lib.hid hbq; clear hbq
          by_cases hjt : j < o.f3.length
          · have p2 : (0 : Int) ≤ (j : Int) := by omega
            have q2 : (j : Int) < (o.f3.length : Int) := by omega
            obtain ⟨ad3, eA3, hx3⟩ := Kd.at_int HI3.out j p2 q2
            cases eA3
            simp only [Int.toNat_natCast] at hx3
            have z3 := pw_cell_below' hwq hx3
            clear hx3
            have HD := Lib.hid (HF.out.2.2.2.2 _ (rdi_mem o.f3 j hjt))
            have HNT := Lib.hid (nums_take o.f3 j hjt)
            have HLE := Lib.hid (show (nums_ (o.f3.take j)).length + (32 :: Lib.itoa (rd o.f3 j)).length ≤ (nums_ o.f3).length by
              have h1 := nums_le o.f3 (j + 1); rw [HNT.out, List.length_append] at h1; exact h1)
            have HTq := Lib.hid (hT.below hwq)
            have HWq := Lib.hid hwq; clear hwq
            have LD := itoa_sz HD.out
            have M3 := Kd.C_max HI3.out
            have E1 := fun W => add_fact ⟨#[32]⟩ ⟨(Lib.itoa (rd o.f3 j)).toArray⟩ W (by rw [show (⟨#[32]⟩ : ByteArray).size = 1 from rfl]; omega)
            go_wp2_with (first
              | (go_at_call 29; refine (Tryd.FormatInt_any _ HD.out.1 HD.out.2 _ HTq.out).mono ?_; rintro e w3 ⟨rfl, hb3⟩)
              | (go_at_call 27; refine (Tryd.WriteString _ _ _ _ _ (Bld.below HBq.out hb3) (len_of (l := 32 :: Lib.itoa (rd o.f3 j)) (by have := HLEN.out; have := HLE.out; simp only [List.length_append] at *; omega) (by simp)) (Nat.le_trans HWq.out.size hb3.size)).mono ?_; rintro e w4 ⟨rfl, hbl4, hb4, hk4⟩))
            have hb4' := (HWq.out.trans (hb3.mono HWq.out.size)).trans hb4
            have hbl5 := Bld.cast (m := 32 :: Lib.itoa (rd o.f3 j)) hbl4 (by simp)
            go_roundw
            case rel => exact ⟨j + 1, by omega, by go_num, by rw [HNT.out, ← List.append_assoc]; exact hbl5, hb4'⟩
            case measure => simp [intOf]; omega
          · obtain rfl : j = o.f3.length := by omega
            have M0 := Kd.C_max HR0.out
            have HWq := Lib.hid hwq; clear hwq
            go_wp2_with (go_at_call 27; refine (Tryd.WriteString _ _ _ _ _ HBq.out (len_of (l := [10]) (by have := HLEN.out; simp only [List.length_append, List.take_length] at *; omega) (by simp)) HWq.out.size).mono ?_; rintro e w4 ⟨rfl, hbl4, hb4, hk4⟩)
            have hb5 := HWq.out.trans hb4
            have hbl5 := hbl4
            go_roundw
            case rel => exact ⟨k + 1, by omega, by go_num, by rw [HFT.out, ← HO.out]; unfold line; simpa [List.append_assoc] using hbl5, hb5⟩
            case measure => simp [intOf]; omega
    · obtain rfl : k = l0.length := by omega
      go_wp2_with (go_at_call 30; (with_reducible refine (Tryd.BString _ _ _ _ HBl.out hb.size).mono ?_); rintro e w1 ⟨rfl, hb1⟩)
      go_ret
      exact ⟨rfl, hb.trans hb1⟩

instance (n : Int) : Decidable (in64 n) := by unfold in64; infer_instance
instance (o : S37) : Decidable (OkOp o) := by unfold OkOp; infer_instance
def operation_Format.f (l0 : List S37) : Option ByteArray := if (fmtOps l0).length ≤ 140737488355328 ∧ ∀ o ∈ l0, OkOp o then some ⟨(fmtOps l0).toArray⟩ else none
theorem operation_Format.calls (A0 : Option Addr) (c0 : Nat) (l0 : List (S37)) (r : ByteArray) (w : World) (hr0 : Kd.C k37 w A0 l0.length l0) (hc0 : l0.length ≤ c0) (h : operation_Format.f l0 = some r) (hT : Tryd.TabOk w) :
    Calls Tryd.prog 17 #[.slice A0 l0.length c0] w fun e w' => e = .returned (.string r) ∧ Below w.heap.size w w' := by
  unfold operation_Format.f at h
  split at h
  · rename_i hc; obtain rfl := Option.some.inj h; exact operation_Format.walk A0 c0 l0 w hr0 hc0 hc.1 hc.2 hT
  · cases h


/-! ### swarflaw28_awake: function 8 -/
def swarflaw28_awake.f (k : Nat)  : Option (Bool) := (operation_Passes.f k 7 3).bind fun bt180 => ((some (([(⟨1, 0, 0, (([3, 6] : List Int)), 0⟩ : S37), (⟨2, 0, 0, ([] : List Int), 0⟩ : S37), (⟨5, 1, 0, ([] : List Int), 0⟩ : S37)] : List (S37)) : List (S37))).bind fun y187 => (if bt180.2 = 0 then ((slices_Equal_int64_int64.f k bt180.1 (([3, 5, 7] : List Int))).bind fun t193 => (if t193 = true then ((operation_Needs.f k y187).bind fun t194 => ((slices_Equal_2_int_2_int.f k t194 (([(⟨0, 1⟩ : S33), (⟨0, 2⟩ : S33), (⟨1, 2⟩ : S33)] : List (S33)))).bind fun t200 => (if t200 = true then (if 1 ≤ (y187.length : Int) then ((operation_Format.f (y187.take 1)).bind fun t206 => (some (t206.toList == ([114, 111, 117, 103, 104, 32, 102, 101, 97, 116, 117, 114, 101, 32, 48, 32, 116, 111, 111, 108, 32, 48, 32, 108, 101, 97, 118, 101, 32, 48, 32, 100, 101, 112, 116, 104, 115, 32, 51, 32, 54, 10] : List UInt8)))) else (none)) else (some false)))) else (some false))) else (some false)))
theorem swarflaw28_awake.mono : ∀ k, LeO (swarflaw28_awake.f k ) (swarflaw28_awake.f (k + 1) ) := by
  intro  k
  unfold swarflaw28_awake.f
  repeat' first
      | (with_reducible exact operation_Needs.mono _ _)
      | (with_reducible exact operation_Passes.mono _ _ _)
      | (with_reducible exact slices_Equal_2_int_2_int.mono _ _ _)
      | (with_reducible exact slices_Equal_int64_int64.mono _ _ _)
      | (with_reducible exact LeO.refl _)
      | (with_reducible exact LeO.none _)
      | (with_reducible refine LeO.ite ?_ ?_)
      | (with_reducible refine LeO.bind ?_ (fun _ => ?_))
      | exact operation_Needs.mono _ _
      | exact operation_Passes.mono _ _ _
      | exact slices_Equal_2_int_2_int.mono _ _ _
      | exact slices_Equal_int64_int64.mono _ _ _
      | exact LeO.none _
      | refine LeO.ite ?_ ?_
      | refine LeO.bind ?_ (fun _ => ?_)
set_option maxHeartbeats 8000000 in
set_option maxRecDepth 100000 in
theorem swarflaw28_awake.calls (k : Nat)  (r : Bool) (w : World) (h : swarflaw28_awake.f k  = some r) (hT : Tryd.TabOk w) :
    Calls Tryd.prog 8 #[] w fun e w' => e = .returned (.bool r) ∧ Below w.heap.size w w' := by
  have hu37 := Tryd.underlying37
  have hu33 := Tryd.underlying33
  have HB := Aside0.mk (Below.refl w.heap.size w)
  have H : ((operation_Passes.f k 7 3).bind fun bt180 => ((some (([(⟨1, 0, 0, (([3, 6] : List Int)), 0⟩ : S37), (⟨2, 0, 0, ([] : List Int), 0⟩ : S37), (⟨5, 1, 0, ([] : List Int), 0⟩ : S37)] : List (S37)) : List (S37))).bind fun y187 => (if bt180.2 = 0 then ((slices_Equal_int64_int64.f k bt180.1 (([3, 5, 7] : List Int))).bind fun t193 => (if t193 = true then ((operation_Needs.f k y187).bind fun t194 => ((slices_Equal_2_int_2_int.f k t194 (([(⟨0, 1⟩ : S33), (⟨0, 2⟩ : S33), (⟨1, 2⟩ : S33)] : List (S33)))).bind fun t200 => (if t200 = true then (if 1 ≤ (y187.length : Int) then ((operation_Format.f (y187.take 1)).bind fun t206 => (some (t206.toList == ([114, 111, 117, 103, 104, 32, 102, 101, 97, 116, 117, 114, 101, 32, 48, 32, 116, 111, 111, 108, 32, 48, 32, 108, 101, 97, 118, 101, 32, 48, 32, 100, 101, 112, 116, 104, 115, 32, 51, 32, 54, 10] : List UInt8)))) else (none)) else (some false)))) else (some false))) else (some false)))) = some r := h
  clear h
  replace H := Option.bind_eq_some_iff.mp H
  obtain ⟨⟨t180, t181⟩, A10, H⟩ := H
  replace H : ((some (([(⟨1, 0, 0, (([3, 6] : List Int)), 0⟩ : S37), (⟨2, 0, 0, ([] : List Int), 0⟩ : S37), (⟨5, 1, 0, ([] : List Int), 0⟩ : S37)] : List (S37)) : List (S37))).bind fun y187 => (if t181 = 0 then ((slices_Equal_int64_int64.f k t180 (([3, 5, 7] : List Int))).bind fun t193 => (if t193 = true then ((operation_Needs.f k y187).bind fun t194 => ((slices_Equal_2_int_2_int.f k t194 (([(⟨0, 1⟩ : S33), (⟨0, 2⟩ : S33), (⟨1, 2⟩ : S33)] : List (S33)))).bind fun t200 => (if t200 = true then (if 1 ≤ (y187.length : Int) then ((operation_Format.f (y187.take 1)).bind fun t206 => (some (t206.toList == ([114, 111, 117, 103, 104, 32, 102, 101, 97, 116, 117, 114, 101, 32, 48, 32, 116, 111, 111, 108, 32, 48, 32, 108, 101, 97, 118, 101, 32, 48, 32, 100, 101, 112, 116, 104, 115, 32, 51, 32, 54, 10] : List UInt8)))) else (none)) else (some false)))) else (some false))) else (some false))) = some r := H
  have A1 := Aside0.mk A10
  clear A10
  obtain ⟨y184, hy184⟩ : ∃ y_ : List Int, y_ = (([3, 6] : List Int)) := ⟨_, rfl⟩
  replace H : ((some (([(⟨1, 0, 0, y184, 0⟩ : S37), (⟨2, 0, 0, ([] : List Int), 0⟩ : S37), (⟨5, 1, 0, ([] : List Int), 0⟩ : S37)] : List (S37)) : List (S37))).bind fun y187 => (if t181 = 0 then ((slices_Equal_int64_int64.f k t180 (([3, 5, 7] : List Int))).bind fun t193 => (if t193 = true then ((operation_Needs.f k y187).bind fun t194 => ((slices_Equal_2_int_2_int.f k t194 (([(⟨0, 1⟩ : S33), (⟨0, 2⟩ : S33), (⟨1, 2⟩ : S33)] : List (S33)))).bind fun t200 => (if t200 = true then (if 1 ≤ (y187.length : Int) then ((operation_Format.f (y187.take 1)).bind fun t206 => (some (t206.toList == ([114, 111, 117, 103, 104, 32, 102, 101, 97, 116, 117, 114, 101, 32, 48, 32, 116, 111, 111, 108, 32, 48, 32, 108, 101, 97, 118, 101, 32, 48, 32, 100, 101, 112, 116, 104, 115, 32, 51, 32, 54, 10] : List UInt8)))) else (none)) else (some false)))) else (some false))) else (some false))) = some r := by first | (rw [hy184]; with_reducible exact H) | (have H2_ := (Option.bind_some _ _).symm.trans H; rw [hy184]; with_reducible exact H2_) | (have H2_ := (Option.bind_some _ _).symm.trans H; with_reducible exact H2_) | with_reducible exact H | (rw [hy184]; exact H) | exact H
  have Ny184 := Aside0.mk hy184
  clear hy184
  obtain ⟨y187, hy187⟩ : ∃ y_ : List (S37), y_ = (([(⟨1, 0, 0, y184, 0⟩ : S37), (⟨2, 0, 0, ([] : List Int), 0⟩ : S37), (⟨5, 1, 0, ([] : List Int), 0⟩ : S37)] : List (S37))) := ⟨_, rfl⟩
  replace H : (if t181 = 0 then ((slices_Equal_int64_int64.f k t180 (([3, 5, 7] : List Int))).bind fun t193 => (if t193 = true then ((operation_Needs.f k y187).bind fun t194 => ((slices_Equal_2_int_2_int.f k t194 (([(⟨0, 1⟩ : S33), (⟨0, 2⟩ : S33), (⟨1, 2⟩ : S33)] : List (S33)))).bind fun t200 => (if t200 = true then (if 1 ≤ (y187.length : Int) then ((operation_Format.f (y187.take 1)).bind fun t206 => (some (t206.toList == ([114, 111, 117, 103, 104, 32, 102, 101, 97, 116, 117, 114, 101, 32, 48, 32, 116, 111, 111, 108, 32, 48, 32, 108, 101, 97, 118, 101, 32, 48, 32, 100, 101, 112, 116, 104, 115, 32, 51, 32, 54, 10] : List UInt8)))) else (none)) else (some false)))) else (some false))) else (some false)) = some r := by first | (rw [hy187]; with_reducible exact H) | (have H2_ := (Option.bind_some _ _).symm.trans H; rw [hy187]; with_reducible exact H2_) | (have H2_ := (Option.bind_some _ _).symm.trans H; with_reducible exact H2_) | with_reducible exact H | (rw [hy187]; exact H) | exact H
  have Ny187 := Aside0.mk hy187
  clear hy187
  by_cases c2 : t181 = 0
  · rw [if_pos c2] at H
    have c2b0 : (t181 == 0) = true := beq_iff_eq.mpr c2
    have c2b1 : (t181 != 0) = false := bne_eq_false_iff_eq.mpr c2
    clear c2
    obtain ⟨y190, hy190⟩ : ∃ y_ : List Int, y_ = (([3, 5, 7] : List Int)) := ⟨_, rfl⟩
    replace H : ((slices_Equal_int64_int64.f k t180 y190).bind fun t193 => (if t193 = true then ((operation_Needs.f k y187).bind fun t194 => ((slices_Equal_2_int_2_int.f k t194 (([(⟨0, 1⟩ : S33), (⟨0, 2⟩ : S33), (⟨1, 2⟩ : S33)] : List (S33)))).bind fun t200 => (if t200 = true then (if 1 ≤ (y187.length : Int) then ((operation_Format.f (y187.take 1)).bind fun t206 => (some (t206.toList == ([114, 111, 117, 103, 104, 32, 102, 101, 97, 116, 117, 114, 101, 32, 48, 32, 116, 111, 111, 108, 32, 48, 32, 108, 101, 97, 118, 101, 32, 48, 32, 100, 101, 112, 116, 104, 115, 32, 51, 32, 54, 10] : List UInt8)))) else (none)) else (some false)))) else (some false))) = some r := by first | (rw [hy190]; with_reducible exact H) | (have H2_ := (Option.bind_some _ _).symm.trans H; rw [hy190]; with_reducible exact H2_) | (have H2_ := (Option.bind_some _ _).symm.trans H; with_reducible exact H2_) | with_reducible exact H | (rw [hy190]; exact H) | exact H
    have Ny190 := Aside0.mk hy190
    clear hy190
    replace H := Option.bind_eq_some_iff.mp H
    obtain ⟨t193, A30, H⟩ := H
    replace H : (if t193 = true then ((operation_Needs.f k y187).bind fun t194 => ((slices_Equal_2_int_2_int.f k t194 (([(⟨0, 1⟩ : S33), (⟨0, 2⟩ : S33), (⟨1, 2⟩ : S33)] : List (S33)))).bind fun t200 => (if t200 = true then (if 1 ≤ (y187.length : Int) then ((operation_Format.f (y187.take 1)).bind fun t206 => (some (t206.toList == ([114, 111, 117, 103, 104, 32, 102, 101, 97, 116, 117, 114, 101, 32, 48, 32, 116, 111, 111, 108, 32, 48, 32, 108, 101, 97, 118, 101, 32, 48, 32, 100, 101, 112, 116, 104, 115, 32, 51, 32, 54, 10] : List UInt8)))) else (none)) else (some false)))) else (some false)) = some r := H
    have A3 := Aside0.mk A30
    clear A30
    by_cases c4 : t193 = true
    · subst c4
      have H1 : ((operation_Needs.f k y187).bind fun t194 => ((slices_Equal_2_int_2_int.f k t194 (([(⟨0, 1⟩ : S33), (⟨0, 2⟩ : S33), (⟨1, 2⟩ : S33)] : List (S33)))).bind fun t200 => (if t200 = true then (if 1 ≤ (y187.length : Int) then ((operation_Format.f (y187.take 1)).bind fun t206 => (some (t206.toList == ([114, 111, 117, 103, 104, 32, 102, 101, 97, 116, 117, 114, 101, 32, 48, 32, 116, 111, 111, 108, 32, 48, 32, 108, 101, 97, 118, 101, 32, 48, 32, 100, 101, 112, 116, 104, 115, 32, 51, 32, 54, 10] : List UInt8)))) else (none)) else (some false)))) = some r := by rw [if_pos rfl] at H; exact H
      clear H
      have H := H1
      clear H1
      replace H := Option.bind_eq_some_iff.mp H
      obtain ⟨t194, A50, H⟩ := H
      replace H : ((slices_Equal_2_int_2_int.f k t194 (([(⟨0, 1⟩ : S33), (⟨0, 2⟩ : S33), (⟨1, 2⟩ : S33)] : List (S33)))).bind fun t200 => (if t200 = true then (if 1 ≤ (y187.length : Int) then ((operation_Format.f (y187.take 1)).bind fun t206 => (some (t206.toList == ([114, 111, 117, 103, 104, 32, 102, 101, 97, 116, 117, 114, 101, 32, 48, 32, 116, 111, 111, 108, 32, 48, 32, 108, 101, 97, 118, 101, 32, 48, 32, 100, 101, 112, 116, 104, 115, 32, 51, 32, 54, 10] : List UInt8)))) else (none)) else (some false))) = some r := H
      have A5 := Aside0.mk A50
      clear A50
      obtain ⟨y197, hy197⟩ : ∃ y_ : List (S33), y_ = (([(⟨0, 1⟩ : S33), (⟨0, 2⟩ : S33), (⟨1, 2⟩ : S33)] : List (S33))) := ⟨_, rfl⟩
      replace H : ((slices_Equal_2_int_2_int.f k t194 y197).bind fun t200 => (if t200 = true then (if 1 ≤ (y187.length : Int) then ((operation_Format.f (y187.take 1)).bind fun t206 => (some (t206.toList == ([114, 111, 117, 103, 104, 32, 102, 101, 97, 116, 117, 114, 101, 32, 48, 32, 116, 111, 111, 108, 32, 48, 32, 108, 101, 97, 118, 101, 32, 48, 32, 100, 101, 112, 116, 104, 115, 32, 51, 32, 54, 10] : List UInt8)))) else (none)) else (some false))) = some r := by first | (rw [hy197]; with_reducible exact H) | (have H2_ := (Option.bind_some _ _).symm.trans H; rw [hy197]; with_reducible exact H2_) | (have H2_ := (Option.bind_some _ _).symm.trans H; with_reducible exact H2_) | with_reducible exact H | (rw [hy197]; exact H) | exact H
      have Ny197 := Aside0.mk hy197
      clear hy197
      replace H := Option.bind_eq_some_iff.mp H
      obtain ⟨t200, A60, H⟩ := H
      replace H : (if t200 = true then (if 1 ≤ (y187.length : Int) then ((operation_Format.f (y187.take 1)).bind fun t206 => (some (t206.toList == ([114, 111, 117, 103, 104, 32, 102, 101, 97, 116, 117, 114, 101, 32, 48, 32, 116, 111, 111, 108, 32, 48, 32, 108, 101, 97, 118, 101, 32, 48, 32, 100, 101, 112, 116, 104, 115, 32, 51, 32, 54, 10] : List UInt8)))) else (none)) else (some false)) = some r := H
      have A6 := Aside0.mk A60
      clear A60
      by_cases c7 : t200 = true
      · subst c7
        have H1 : (if 1 ≤ (y187.length : Int) then ((operation_Format.f (y187.take 1)).bind fun t206 => (some (t206.toList == ([114, 111, 117, 103, 104, 32, 102, 101, 97, 116, 117, 114, 101, 32, 48, 32, 116, 111, 111, 108, 32, 48, 32, 108, 101, 97, 118, 101, 32, 48, 32, 100, 101, 112, 116, 104, 115, 32, 51, 32, 54, 10] : List UInt8)))) else (none)) = some r := by rw [if_pos rfl] at H; exact H
        clear H
        have H := H1
        clear H1
        by_cases c8 : 1 ≤ (y187.length : Int)
        · rw [if_pos c8] at H
          have c8b0 := eq_true c8
          have c8b1 : decide (1 ≤ (y187.length : Int)) = true := decide_eq_true c8
          clear c8
          obtain ⟨y201, hy201⟩ : ∃ y_ : List (S37), y_ = (y187.take 1) := ⟨_, rfl⟩
          replace H : ((operation_Format.f y201).bind fun t206 => (some (t206.toList == ([114, 111, 117, 103, 104, 32, 102, 101, 97, 116, 117, 114, 101, 32, 48, 32, 116, 111, 111, 108, 32, 48, 32, 108, 101, 97, 118, 101, 32, 48, 32, 100, 101, 112, 116, 104, 115, 32, 51, 32, 54, 10] : List UInt8)))) = some r := by first | (rw [hy201]; with_reducible exact H) | (have H2_ := (Option.bind_some _ _).symm.trans H; rw [hy201]; with_reducible exact H2_) | (have H2_ := (Option.bind_some _ _).symm.trans H; with_reducible exact H2_) | with_reducible exact H | (rw [hy201]; exact H) | exact H
          have Ny201 := Aside0.mk hy201
          clear hy201
          replace H := Option.bind_eq_some_iff.mp H
          obtain ⟨t206, A90, H⟩ := H
          replace H : (some (t206.toList == ([114, 111, 117, 103, 104, 32, 102, 101, 97, 116, 117, 114, 101, 32, 48, 32, 116, 111, 111, 108, 32, 48, 32, 108, 101, 97, 118, 101, 32, 48, 32, 100, 101, 112, 116, 104, 115, 32, 51, 32, 54, 10] : List UInt8))) = some r := H
          have A9 := Aside0.mk A90
          clear A90
          obtain rfl := Option.some.inj H
          go_enter Tryd.func8, Tryd.ntmps8
          go_wp2_with (first | ((with_reducible refine gate_callee (f := 9) rfl ?_); refine goesL_ (some 5) rfl rfl Tryd.func9 (by kernel_rfl) rfl #[.int .i64 7, .int .i64 3] rfl (by (try simp only [List.map_toArray, List.map_cons, List.map_nil]); first | done | rfl | (simp only [List.length_drop, List.length_take]; rfl)) ?_; (with_reducible refine (operation_Passes.calls k 7 3 t180 t181 _ A1.out).mono ?_); rintro e w10 ⟨v182, rfl, ho0, hb⟩; refine ⟨_, rfl, ?_⟩; have n0_ := Aside0.mk (Kd.R_lower ho0 (below_size (by repeat (first | (with_reducible first | exact HB.out | apply below_alloc | apply pw_below_drewN | apply below_drew1) | exact HB.out)))); have n1_ := Aside0.mk (below_step (by repeat (first | (with_reducible first | exact HB.out | apply below_alloc | apply pw_below_drewN | apply below_drew1) | exact HB.out)) hb); clear HB; have HO183 := n0_; have HB := n1_; clear n0_ n1_; (try clear hb); (try clear hb2); (try clear hk); (try clear hi); (try clear ho0)) | ((with_reducible refine gate_dst (N := 8) rfl ?_); (try (refine gate_guard (by rfl) ?_; dsimp only)); refine Kd.R_lit (Kd.int .i64) _ 2 ?hg (N := 8) ?hd (xs := ([3, 6] : List Int)) (inner := [.int .i64 3, .int .i64 6]) (ok := fun _ => True) (okp := fun _ => True) ?hr ?hp (fun _ hk => hk) trivial (Below.refl _ _) (Nat.le_refl _) (by simp) ?_; (case hd => rfl); (case hg => rfl); (case hr => first | (go_simp; done) | (go_simp; rfl)); (case hp => exact (Reps.one (show Kd.M (Kd.int .i64) _ _ _ 3 [.int .i64 3] from rfl) (Reps.one (show Kd.M (Kd.int .i64) _ _ _ 6 [.int .i64 6] from rfl) (Reps.none _ _)))); intro v185 w11 ho12 hb hg_ hnew_; clear hg_ hnew_; (first | rw [← Ny184.out] at ho12 | (simp only [Int.reduceToNat] at ho12; rw [← Ny184.out] at ho12)); have n0_ := Aside0.mk (Kd.R_elder' (by (with_reducible repeat (first | apply Kd.R_alloc | apply Kd.R_drewN | apply Kd.R_drew)); exact HO183.out) (Kd.R_base ho12) hb); have n1_ := Aside0.mk (Kd.R_lower (Kd.R_new' ho12 (Kd.R_lt (by (with_reducible repeat (first | apply Kd.R_alloc | apply Kd.R_drewN | apply Kd.R_drew)); exact HO183.out))) (below_size (by repeat (first | (with_reducible first | exact HB.out | apply below_alloc | apply pw_below_drewN | apply below_drew1) | exact HB.out)))); have n2_ := Aside0.mk (below_step (by repeat (first | (with_reducible first | exact HB.out | apply below_alloc | apply pw_below_drewN | apply below_drew1) | exact HB.out)) hb); clear HO183; clear HB; have HO183 := n0_; have HO186 := n1_; have HB := n2_; clear n0_ n1_ n2_; clear hb ho12; obtain ⟨Ao13, co13, eo13⟩ := Kd.R_slice HO186.out; subst eo13) | ((with_reducible refine gate_dst (N := 12) rfl ?_); (try (refine gate_guard (by rfl) ?_; dsimp only)); refine Kd.N_lit k37 _ 37 ?hg (N' := 12) ?hd (xs := ([(⟨1, 0, 0, y184, 0⟩ : S37), (⟨2, 0, 0, ([] : List Int), 0⟩ : S37), (⟨5, 1, 0, ([] : List Int), 0⟩ : S37)] : List (S37))) (inner := [.int .i64 1, .int .i64 0, .int .i64 0, .slice Ao13 y184.length co13, .int .i64 0, .int .i64 2, .int .i64 0, .int .i64 0, .slice none 0 0, .int .i64 0, .int .i64 5, .int .i64 1, .int .i64 0, .slice none 0 0, .int .i64 0]) (ok := (fun k_ => some k_ ≠ (v182 : Value).ownBlock)) (okp := (fun k_ => some k_ ≠ (v182 : Value).ownBlock)) ?hr ?hp (fun _ hk => hk) ((show ∀ k_, w11.heap.size ≤ k_ → (fun k_ => some k_ ≠ (v182 : Value).ownBlock) k_ from fun k_ hk => Kd.fresh' (Kd.R_lt (by (with_reducible repeat (first | apply Kd.R_alloc | apply Kd.R_drewN | apply Kd.R_drew)); exact HO183.out)) k_ hk) _ (Nat.le_refl _)) (Below.refl _ _) (Nat.le_refl _) (by simp) ?_; (case hd => rfl); (case hg => rfl); (case hr => first | (go_simp; done) | (go_simp; rfl)); (case hp => exact (Reps.c5 (show Kd.FK k37 _ _ (⟨1, 0, 0, y184, 0⟩ : S37) [.int .i64 1, .int .i64 0, .int .i64 0, .slice Ao13 y184.length co13, .int .i64 0] from (k37_mkF _ _ (⟨1, 0, 0, y184, 0⟩ : S37) (Kd.R_reads' (Kd.R_mono (ok' := (fun k_ => some k_ ≠ (v182 : Value).ownBlock)) (HO186.out) (fun k_ hk => hk.2))).2.1 (Kd.R_F (Kd.R_mono (ok' := (fun k_ => some k_ ≠ (v182 : Value).ownBlock)) (HO186.out) (fun k_ hk => hk.2))))) (Reps.c5 (show Kd.FK k37 _ _ (⟨2, 0, 0, ([] : List Int), 0⟩ : S37) [.int .i64 2, .int .i64 0, .int .i64 0, .slice none 0 0, .int .i64 0] from (k37_mkF _ _ (⟨2, 0, 0, ([] : List Int), 0⟩ : S37) (Nat.le_refl _) (Kd.F_nil _ _ _))) (Reps.c5 (show Kd.FK k37 _ _ (⟨5, 1, 0, ([] : List Int), 0⟩ : S37) [.int .i64 5, .int .i64 1, .int .i64 0, .slice none 0 0, .int .i64 0] from (k37_mkF _ _ (⟨5, 1, 0, ([] : List Int), 0⟩ : S37) (Nat.le_refl _) (Kd.F_nil _ _ _))) (Reps.none _ _))))); intro v188 w14 ho15 hb hg_ hnew_; clear hg_ hnew_; (first | rw [← Ny187.out] at ho15 | (simp only [Int.reduceToNat] at ho15; rw [← Ny187.out] at ho15)); have n0_ := Aside0.mk (Kd.R_below (by (with_reducible repeat (first | apply Kd.R_alloc | apply Kd.R_drewN | apply Kd.R_drew)); exact HO183.out) hb); have n1_ := Aside0.mk (Kd.N_lower ho15 (below_size (by repeat (first | (with_reducible first | exact HB.out | apply below_alloc | apply pw_below_drewN | apply below_drew1) | exact HB.out)))); have n2_ := Aside0.mk (below_step (by repeat (first | (with_reducible first | exact HB.out | apply below_alloc | apply pw_below_drewN | apply below_drew1) | exact HB.out)) hb); clear HO183; clear HB; clear HO186; have HO183 := n0_; have HO189 := n1_; have HB := n2_; clear n0_ n1_ n2_; clear hb ho15) | ((with_reducible refine gate_dst (N := 17) rfl ?_); (try (refine gate_guard (by rfl) ?_; dsimp only)); refine Kd.R_lit (Kd.int .i64) _ 2 ?hg (N := 17) ?hd (xs := ([3, 5, 7] : List Int)) (inner := [.int .i64 3, .int .i64 5, .int .i64 7]) (ok := fun _ => True) (okp := fun _ => True) ?hr ?hp (fun _ hk => hk) trivial (Below.refl _ _) (Nat.le_refl _) (by simp) ?_; (case hd => rfl); (case hg => rfl); (case hr => first | (go_simp; done) | (go_simp; rfl)); (case hp => exact (Reps.one (show Kd.M (Kd.int .i64) _ _ _ 3 [.int .i64 3] from rfl) (Reps.one (show Kd.M (Kd.int .i64) _ _ _ 5 [.int .i64 5] from rfl) (Reps.one (show Kd.M (Kd.int .i64) _ _ _ 7 [.int .i64 7] from rfl) (Reps.none _ _))))); intro v191 w16 ho17 hb hg_ hnew_; clear hg_ hnew_; (first | rw [← Ny190.out] at ho17 | (simp only [Int.reduceToNat] at ho17; rw [← Ny190.out] at ho17)); have n0_ := Aside0.mk (Kd.R_elder' (by (with_reducible repeat (first | apply Kd.R_alloc | apply Kd.R_drewN | apply Kd.R_drew)); exact HO183.out) (Kd.R_base ho17) hb); have n1_ := Aside0.mk (Kd.N_elder' (by (with_reducible repeat (first | apply Kd.N_alloc | apply Kd.N_drewN | apply Kd.N_drew)); exact HO189.out) (Kd.R_base ho17) hb); have n2_ := Aside0.mk (Kd.R_lower (Kd.R_new' ho17 (Kd.R_lt (by (with_reducible repeat (first | apply Kd.R_alloc | apply Kd.R_drewN | apply Kd.R_drew)); exact HO183.out))) (below_size (by repeat (first | (with_reducible first | exact HB.out | apply below_alloc | apply pw_below_drewN | apply below_drew1) | exact HB.out)))); have n3_ := Aside0.mk (below_step (by repeat (first | (with_reducible first | exact HB.out | apply below_alloc | apply pw_below_drewN | apply below_drew1) | exact HB.out)) hb); clear HO183; clear HO189; clear HB; have HO183 := n0_; have HO189 := n1_; have HO192 := n2_; have HB := n3_; clear n0_ n1_ n2_ n3_; clear hb ho17; obtain ⟨Ao18, co18, eo18⟩ := Kd.R_slice HO183.out; subst eo18; obtain ⟨Ao19, co19, eo19⟩ := Kd.R_slice HO192.out; subst eo19) | (go_at_call 11; (with_reducible refine (slices_Equal_int64_int64.calls k _ _ t180 _ _ y190 true _ ?side1 ?side2 ?side3 ?side4 A3.out).mono ?_); (case side1 => repeat (first | exact (Kd.R_reads' HO183.out).2.2 | (with_reducible refine Kd.C_alloc ?_ _) | (with_reducible refine Kd.C_drewN ?_ _) | (with_reducible refine Kd.C_drew ?_))); (case side2 => exact (Kd.R_reads' HO183.out).2.1); (case side3 => repeat (first | exact (Kd.R_reads' HO192.out).2.2 | (with_reducible refine Kd.C_alloc ?_ _) | (with_reducible refine Kd.C_drewN ?_ _) | (with_reducible refine Kd.C_drew ?_))); (case side4 => exact (Kd.R_reads' HO192.out).2.1); rintro e w' ⟨rfl, ⟨nd, rfl⟩⟩; obtain ⟨Ao20, co20, eo20⟩ := Kd.N_slice HO189.out; subst eo20) | (go_at_call 14; (with_reducible refine (operation_Needs.calls k _ _ y187 t194 _ ?side1 ?side2 A5.out).mono ?_); (case side1 => repeat (first | exact (Kd.N_reads' HO189.out).2.2 | (with_reducible refine Kd.C_alloc ?_ _) | (with_reducible refine Kd.C_drewN ?_ _) | (with_reducible refine Kd.C_drew ?_))); (case side2 => exact (Kd.N_reads' HO189.out).2.1); rintro e w21 ⟨v195, rfl, ho0, hb⟩; have n0_ := Aside0.mk (Kd.R_below (by (with_reducible repeat (first | apply Kd.R_alloc | apply Kd.R_drewN | apply Kd.R_drew)); exact HO183.out) hb); have n1_ := Aside0.mk (Kd.N_elder' (by (with_reducible repeat (first | apply Kd.N_alloc | apply Kd.N_drewN | apply Kd.N_drew)); exact HO189.out) (Kd.R_base ho0) hb); have n2_ := Aside0.mk (Kd.R_below (by (with_reducible repeat (first | apply Kd.R_alloc | apply Kd.R_drewN | apply Kd.R_drew)); exact HO192.out) hb); have n3_ := Aside0.mk (Kd.R_lower ho0 (below_size (by repeat (first | (with_reducible first | exact HB.out | apply below_alloc | apply pw_below_drewN | apply below_drew1) | exact HB.out)))); have n4_ := Aside0.mk (below_step (by repeat (first | (with_reducible first | exact HB.out | apply below_alloc | apply pw_below_drewN | apply below_drew1) | exact HB.out)) hb); clear HO183; clear HO189; clear HO192; clear HB; have HO183 := n0_; have HO189 := n1_; have HO192 := n2_; have HO196 := n3_; have HB := n4_; clear n0_ n1_ n2_ n3_ n4_; (try clear hb); (try clear hb2); (try clear hk); (try clear hi); (try clear ho0)) | ((with_reducible refine gate_dst (N := 26) rfl ?_); (try (refine gate_guard (by rfl) ?_; dsimp only)); refine Kd.R_lit k33 _ 33 ?hg (N := 26) ?hd (xs := ([(⟨0, 1⟩ : S33), (⟨0, 2⟩ : S33), (⟨1, 2⟩ : S33)] : List (S33))) (inner := [.int .i64 0, .int .i64 1, .int .i64 0, .int .i64 2, .int .i64 1, .int .i64 2]) (ok := fun _ => True) (okp := fun _ => True) ?hr ?hp (fun _ hk => hk) trivial (Below.refl _ _) (Nat.le_refl _) (by simp) ?_; (case hd => rfl); (case hg => rfl); (case hr => first | (go_simp; done) | (go_simp; rfl)); (case hp => exact (Reps.c2 (show Kd.M k33 _ _ _ (⟨0, 1⟩ : S33) [.int .i64 0, .int .i64 1] from (k33_mkM _ _ _ (⟨0, 1⟩ : S33) )) (Reps.c2 (show Kd.M k33 _ _ _ (⟨0, 2⟩ : S33) [.int .i64 0, .int .i64 2] from (k33_mkM _ _ _ (⟨0, 2⟩ : S33) )) (Reps.c2 (show Kd.M k33 _ _ _ (⟨1, 2⟩ : S33) [.int .i64 1, .int .i64 2] from (k33_mkM _ _ _ (⟨1, 2⟩ : S33) )) (Reps.none _ _))))); intro v198 w22 ho23 hb hg_ hnew_; clear hg_ hnew_; (first | rw [← Ny197.out] at ho23 | (simp only [Int.reduceToNat] at ho23; rw [← Ny197.out] at ho23)); have n0_ := Aside0.mk (Kd.R_below (by (with_reducible repeat (first | apply Kd.R_alloc | apply Kd.R_drewN | apply Kd.R_drew)); exact HO183.out) hb); have n1_ := Aside0.mk (Kd.N_elder' (by (with_reducible repeat (first | apply Kd.N_alloc | apply Kd.N_drewN | apply Kd.N_drew)); exact HO189.out) (Kd.R_base ho23) hb); have n2_ := Aside0.mk (Kd.R_below (by (with_reducible repeat (first | apply Kd.R_alloc | apply Kd.R_drewN | apply Kd.R_drew)); exact HO192.out) hb); have n3_ := Aside0.mk (Kd.R_elder' (by (with_reducible repeat (first | apply Kd.R_alloc | apply Kd.R_drewN | apply Kd.R_drew)); exact HO196.out) (Kd.R_base ho23) hb); have n4_ := Aside0.mk (Kd.R_lower (Kd.R_new' ho23 (Kd.R_lt (by (with_reducible repeat (first | apply Kd.R_alloc | apply Kd.R_drewN | apply Kd.R_drew)); exact HO196.out))) (below_size (by repeat (first | (with_reducible first | exact HB.out | apply below_alloc | apply pw_below_drewN | apply below_drew1) | exact HB.out)))); have n5_ := Aside0.mk (below_step (by repeat (first | (with_reducible first | exact HB.out | apply below_alloc | apply pw_below_drewN | apply below_drew1) | exact HB.out)) hb); clear HO183; clear HO189; clear HO192; clear HO196; clear HB; have HO183 := n0_; have HO189 := n1_; have HO192 := n2_; have HO196 := n3_; have HO199 := n4_; have HB := n5_; clear n0_ n1_ n2_ n3_ n4_ n5_; clear hb ho23; obtain ⟨Ao24, co24, eo24⟩ := Kd.R_slice HO196.out; subst eo24; obtain ⟨Ao25, co25, eo25⟩ := Kd.R_slice HO199.out; subst eo25) | (go_at_call 13; (with_reducible refine (slices_Equal_2_int_2_int.calls k _ _ t194 _ _ y197 true _ ?side1 ?side2 ?side3 ?side4 A6.out).mono ?_); (case side1 => repeat (first | exact (Kd.R_reads' HO196.out).2.2 | (with_reducible refine Kd.C_alloc ?_ _) | (with_reducible refine Kd.C_drewN ?_ _) | (with_reducible refine Kd.C_drew ?_))); (case side2 => exact (Kd.R_reads' HO196.out).2.1); (case side3 => repeat (first | exact (Kd.R_reads' HO199.out).2.2 | (with_reducible refine Kd.C_alloc ?_ _) | (with_reducible refine Kd.C_drewN ?_ _) | (with_reducible refine Kd.C_drew ?_))); (case side4 => exact (Kd.R_reads' HO199.out).2.1); rintro e w' ⟨rfl, ⟨nd, rfl⟩⟩; have q26 : (1 : Int) ≤ ((y187.length : Int) : Int) := of_decide_eq_true (by first | (with_reducible assumption) | assumption); obtain ⟨i026, hi026, _, hsz26, _⟩ := info_parts info37; have hroom26 : y187.length ≤ co20 := (Kd.N_reads' HO189.out).2.1; have hC26 : Kd.F k37 _ _ Ao20 y187.length y187 := (Kd.V_at (base := w.heap.size) (Kd.N_V HO189.out)).2.2; have hcut26 := cut_to (P := Tryd.prog) 29 37 .i64 Tryd.underlying29 hi026 Ao20 y187.length co20 1 (by omega) q26 hroom26; have hr26 := Kd.F_take (m := 1) hC26 (by omega); have hy26 : y201.length = (1 : Int).toNat := (by rw [Ny201.out, List.length_take]; omega); rw [← Ny201.out] at hr26; rw [← hy26] at hcut26; have HO205 := Aside0.mk (show Kd.V k37 37 _ w.heap.size _ (.slice Ao20 y201.length co20) y201 from Kd.V_mk (by omega) hr26); have HC205 := Aside0.mk (show y201.length ≤ co20 from by omega); clear hr26 hC26 hroom26 hi026 hsz26; have KY26 := Aside0.mk hy26; clear hy26; replace q26 := eq_true q26) | (go_at_call 17; (with_reducible refine (operation_Format.calls _ _ y201 t206 _ ?side1 ?side2 A9.out (hT.below (by repeat (first | (with_reducible first | exact HB.out | apply below_alloc | apply pw_below_drewN | apply below_drew1) | exact HB.out)))).mono ?_); (case side1 => repeat (first | exact (Kd.V_reads' HO205.out).2.2 | (with_reducible refine Kd.C_alloc ?_ _) | (with_reducible refine Kd.C_drewN ?_ _) | (with_reducible refine Kd.C_drew ?_))); (case side2 => exact (Kd.V_reads' HO205.out).2.1); rintro e w27 ⟨rfl, hb⟩; have n0_ := Aside0.mk (Kd.R_below (by (with_reducible repeat (first | apply Kd.R_alloc | apply Kd.R_drewN | apply Kd.R_drew)); exact HO183.out) hb); have n1_ := Aside0.mk (Kd.N_below (by (with_reducible repeat (first | apply Kd.N_alloc | apply Kd.N_drewN | apply Kd.N_drew)); exact HO189.out) hb); have n2_ := Aside0.mk (Kd.R_below (by (with_reducible repeat (first | apply Kd.R_alloc | apply Kd.R_drewN | apply Kd.R_drew)); exact HO192.out) hb); have n3_ := Aside0.mk (Kd.R_below (by (with_reducible repeat (first | apply Kd.R_alloc | apply Kd.R_drewN | apply Kd.R_drew)); exact HO196.out) hb); have n4_ := Aside0.mk (Kd.R_below (by (with_reducible repeat (first | apply Kd.R_alloc | apply Kd.R_drewN | apply Kd.R_drew)); exact HO199.out) hb); have n5_ := Aside0.mk (Kd.V_below (by (with_reducible repeat (first | apply Kd.V_alloc | apply Kd.V_drewN | apply Kd.V_drew)); exact HO205.out) hb); have n6_ := Aside0.mk (below_step (by repeat (first | (with_reducible first | exact HB.out | apply below_alloc | apply pw_below_drewN | apply below_drew1) | exact HB.out)) hb); clear HO183; clear HO189; clear HO192; clear HO196; clear HO199; clear HO205; clear HB; have HO183 := n0_; have HO189 := n1_; have HO192 := n2_; have HO196 := n3_; have HO199 := n4_; have HO205 := n5_; have HB := n6_; clear n0_ n1_ n2_ n3_ n4_ n5_ n6_; (try clear hb); (try clear hb2); (try clear hk); (try clear hi)))
          go_ret
          exact ⟨by first | rfl | (simp [errW_none, errW_some] <;> rfl) | (simp [*, errW_none, errW_some] <;> rfl), by repeat (first | (with_reducible first | exact HB.out | apply below_alloc | apply pw_below_drewN | apply below_drew1) | exact HB.out)⟩
        · rw [if_neg c8] at H
          exact absurd H (by simp)
      · replace c7 := Bool.eq_false_iff.mpr c7
        subst c7
        have H1 : (some false) = some r := by rw [if_neg (show ¬ (false = true) by decide)] at H; exact H
        clear H
        have H := H1
        clear H1
        obtain rfl := Option.some.inj H
        go_enter Tryd.func8, Tryd.ntmps8
        go_wp2_with (first | ((with_reducible refine gate_callee (f := 9) rfl ?_); refine goesL_ (some 5) rfl rfl Tryd.func9 (by kernel_rfl) rfl #[.int .i64 7, .int .i64 3] rfl (by (try simp only [List.map_toArray, List.map_cons, List.map_nil]); first | done | rfl | (simp only [List.length_drop, List.length_take]; rfl)) ?_; (with_reducible refine (operation_Passes.calls k 7 3 t180 t181 _ A1.out).mono ?_); rintro e w28 ⟨v182, rfl, ho0, hb⟩; refine ⟨_, rfl, ?_⟩; have n0_ := Aside0.mk (Kd.R_lower ho0 (below_size (by repeat (first | (with_reducible first | exact HB.out | apply below_alloc | apply pw_below_drewN | apply below_drew1) | exact HB.out)))); have n1_ := Aside0.mk (below_step (by repeat (first | (with_reducible first | exact HB.out | apply below_alloc | apply pw_below_drewN | apply below_drew1) | exact HB.out)) hb); clear HB; have HO183 := n0_; have HB := n1_; clear n0_ n1_; (try clear hb); (try clear hb2); (try clear hk); (try clear hi); (try clear ho0)) | ((with_reducible refine gate_dst (N := 8) rfl ?_); (try (refine gate_guard (by rfl) ?_; dsimp only)); refine Kd.R_lit (Kd.int .i64) _ 2 ?hg (N := 8) ?hd (xs := ([3, 6] : List Int)) (inner := [.int .i64 3, .int .i64 6]) (ok := fun _ => True) (okp := fun _ => True) ?hr ?hp (fun _ hk => hk) trivial (Below.refl _ _) (Nat.le_refl _) (by simp) ?_; (case hd => rfl); (case hg => rfl); (case hr => first | (go_simp; done) | (go_simp; rfl)); (case hp => exact (Reps.one (show Kd.M (Kd.int .i64) _ _ _ 3 [.int .i64 3] from rfl) (Reps.one (show Kd.M (Kd.int .i64) _ _ _ 6 [.int .i64 6] from rfl) (Reps.none _ _)))); intro v185 w29 ho30 hb hg_ hnew_; clear hg_ hnew_; (first | rw [← Ny184.out] at ho30 | (simp only [Int.reduceToNat] at ho30; rw [← Ny184.out] at ho30)); have n0_ := Aside0.mk (Kd.R_elder' (by (with_reducible repeat (first | apply Kd.R_alloc | apply Kd.R_drewN | apply Kd.R_drew)); exact HO183.out) (Kd.R_base ho30) hb); have n1_ := Aside0.mk (Kd.R_lower (Kd.R_new' ho30 (Kd.R_lt (by (with_reducible repeat (first | apply Kd.R_alloc | apply Kd.R_drewN | apply Kd.R_drew)); exact HO183.out))) (below_size (by repeat (first | (with_reducible first | exact HB.out | apply below_alloc | apply pw_below_drewN | apply below_drew1) | exact HB.out)))); have n2_ := Aside0.mk (below_step (by repeat (first | (with_reducible first | exact HB.out | apply below_alloc | apply pw_below_drewN | apply below_drew1) | exact HB.out)) hb); clear HO183; clear HB; have HO183 := n0_; have HO186 := n1_; have HB := n2_; clear n0_ n1_ n2_; clear hb ho30; obtain ⟨Ao31, co31, eo31⟩ := Kd.R_slice HO186.out; subst eo31) | ((with_reducible refine gate_dst (N := 12) rfl ?_); (try (refine gate_guard (by rfl) ?_; dsimp only)); refine Kd.N_lit k37 _ 37 ?hg (N' := 12) ?hd (xs := ([(⟨1, 0, 0, y184, 0⟩ : S37), (⟨2, 0, 0, ([] : List Int), 0⟩ : S37), (⟨5, 1, 0, ([] : List Int), 0⟩ : S37)] : List (S37))) (inner := [.int .i64 1, .int .i64 0, .int .i64 0, .slice Ao31 y184.length co31, .int .i64 0, .int .i64 2, .int .i64 0, .int .i64 0, .slice none 0 0, .int .i64 0, .int .i64 5, .int .i64 1, .int .i64 0, .slice none 0 0, .int .i64 0]) (ok := (fun k_ => some k_ ≠ (v182 : Value).ownBlock)) (okp := (fun k_ => some k_ ≠ (v182 : Value).ownBlock)) ?hr ?hp (fun _ hk => hk) ((show ∀ k_, w29.heap.size ≤ k_ → (fun k_ => some k_ ≠ (v182 : Value).ownBlock) k_ from fun k_ hk => Kd.fresh' (Kd.R_lt (by (with_reducible repeat (first | apply Kd.R_alloc | apply Kd.R_drewN | apply Kd.R_drew)); exact HO183.out)) k_ hk) _ (Nat.le_refl _)) (Below.refl _ _) (Nat.le_refl _) (by simp) ?_; (case hd => rfl); (case hg => rfl); (case hr => first | (go_simp; done) | (go_simp; rfl)); (case hp => exact (Reps.c5 (show Kd.FK k37 _ _ (⟨1, 0, 0, y184, 0⟩ : S37) [.int .i64 1, .int .i64 0, .int .i64 0, .slice Ao31 y184.length co31, .int .i64 0] from (k37_mkF _ _ (⟨1, 0, 0, y184, 0⟩ : S37) (Kd.R_reads' (Kd.R_mono (ok' := (fun k_ => some k_ ≠ (v182 : Value).ownBlock)) (HO186.out) (fun k_ hk => hk.2))).2.1 (Kd.R_F (Kd.R_mono (ok' := (fun k_ => some k_ ≠ (v182 : Value).ownBlock)) (HO186.out) (fun k_ hk => hk.2))))) (Reps.c5 (show Kd.FK k37 _ _ (⟨2, 0, 0, ([] : List Int), 0⟩ : S37) [.int .i64 2, .int .i64 0, .int .i64 0, .slice none 0 0, .int .i64 0] from (k37_mkF _ _ (⟨2, 0, 0, ([] : List Int), 0⟩ : S37) (Nat.le_refl _) (Kd.F_nil _ _ _))) (Reps.c5 (show Kd.FK k37 _ _ (⟨5, 1, 0, ([] : List Int), 0⟩ : S37) [.int .i64 5, .int .i64 1, .int .i64 0, .slice none 0 0, .int .i64 0] from (k37_mkF _ _ (⟨5, 1, 0, ([] : List Int), 0⟩ : S37) (Nat.le_refl _) (Kd.F_nil _ _ _))) (Reps.none _ _))))); intro v188 w32 ho33 hb hg_ hnew_; clear hg_ hnew_; (first | rw [← Ny187.out] at ho33 | (simp only [Int.reduceToNat] at ho33; rw [← Ny187.out] at ho33)); have n0_ := Aside0.mk (Kd.R_below (by (with_reducible repeat (first | apply Kd.R_alloc | apply Kd.R_drewN | apply Kd.R_drew)); exact HO183.out) hb); have n1_ := Aside0.mk (Kd.N_lower ho33 (below_size (by repeat (first | (with_reducible first | exact HB.out | apply below_alloc | apply pw_below_drewN | apply below_drew1) | exact HB.out)))); have n2_ := Aside0.mk (below_step (by repeat (first | (with_reducible first | exact HB.out | apply below_alloc | apply pw_below_drewN | apply below_drew1) | exact HB.out)) hb); clear HO183; clear HB; clear HO186; have HO183 := n0_; have HO189 := n1_; have HB := n2_; clear n0_ n1_ n2_; clear hb ho33) | ((with_reducible refine gate_dst (N := 17) rfl ?_); (try (refine gate_guard (by rfl) ?_; dsimp only)); refine Kd.R_lit (Kd.int .i64) _ 2 ?hg (N := 17) ?hd (xs := ([3, 5, 7] : List Int)) (inner := [.int .i64 3, .int .i64 5, .int .i64 7]) (ok := fun _ => True) (okp := fun _ => True) ?hr ?hp (fun _ hk => hk) trivial (Below.refl _ _) (Nat.le_refl _) (by simp) ?_; (case hd => rfl); (case hg => rfl); (case hr => first | (go_simp; done) | (go_simp; rfl)); (case hp => exact (Reps.one (show Kd.M (Kd.int .i64) _ _ _ 3 [.int .i64 3] from rfl) (Reps.one (show Kd.M (Kd.int .i64) _ _ _ 5 [.int .i64 5] from rfl) (Reps.one (show Kd.M (Kd.int .i64) _ _ _ 7 [.int .i64 7] from rfl) (Reps.none _ _))))); intro v191 w34 ho35 hb hg_ hnew_; clear hg_ hnew_; (first | rw [← Ny190.out] at ho35 | (simp only [Int.reduceToNat] at ho35; rw [← Ny190.out] at ho35)); have n0_ := Aside0.mk (Kd.R_elder' (by (with_reducible repeat (first | apply Kd.R_alloc | apply Kd.R_drewN | apply Kd.R_drew)); exact HO183.out) (Kd.R_base ho35) hb); have n1_ := Aside0.mk (Kd.N_elder' (by (with_reducible repeat (first | apply Kd.N_alloc | apply Kd.N_drewN | apply Kd.N_drew)); exact HO189.out) (Kd.R_base ho35) hb); have n2_ := Aside0.mk (Kd.R_lower (Kd.R_new' ho35 (Kd.R_lt (by (with_reducible repeat (first | apply Kd.R_alloc | apply Kd.R_drewN | apply Kd.R_drew)); exact HO183.out))) (below_size (by repeat (first | (with_reducible first | exact HB.out | apply below_alloc | apply pw_below_drewN | apply below_drew1) | exact HB.out)))); have n3_ := Aside0.mk (below_step (by repeat (first | (with_reducible first | exact HB.out | apply below_alloc | apply pw_below_drewN | apply below_drew1) | exact HB.out)) hb); clear HO183; clear HO189; clear HB; have HO183 := n0_; have HO189 := n1_; have HO192 := n2_; have HB := n3_; clear n0_ n1_ n2_ n3_; clear hb ho35; obtain ⟨Ao36, co36, eo36⟩ := Kd.R_slice HO183.out; subst eo36; obtain ⟨Ao37, co37, eo37⟩ := Kd.R_slice HO192.out; subst eo37) | (go_at_call 11; (with_reducible refine (slices_Equal_int64_int64.calls k _ _ t180 _ _ y190 true _ ?side1 ?side2 ?side3 ?side4 A3.out).mono ?_); (case side1 => repeat (first | exact (Kd.R_reads' HO183.out).2.2 | (with_reducible refine Kd.C_alloc ?_ _) | (with_reducible refine Kd.C_drewN ?_ _) | (with_reducible refine Kd.C_drew ?_))); (case side2 => exact (Kd.R_reads' HO183.out).2.1); (case side3 => repeat (first | exact (Kd.R_reads' HO192.out).2.2 | (with_reducible refine Kd.C_alloc ?_ _) | (with_reducible refine Kd.C_drewN ?_ _) | (with_reducible refine Kd.C_drew ?_))); (case side4 => exact (Kd.R_reads' HO192.out).2.1); rintro e w' ⟨rfl, ⟨nd, rfl⟩⟩; obtain ⟨Ao38, co38, eo38⟩ := Kd.N_slice HO189.out; subst eo38) | (go_at_call 14; (with_reducible refine (operation_Needs.calls k _ _ y187 t194 _ ?side1 ?side2 A5.out).mono ?_); (case side1 => repeat (first | exact (Kd.N_reads' HO189.out).2.2 | (with_reducible refine Kd.C_alloc ?_ _) | (with_reducible refine Kd.C_drewN ?_ _) | (with_reducible refine Kd.C_drew ?_))); (case side2 => exact (Kd.N_reads' HO189.out).2.1); rintro e w39 ⟨v195, rfl, ho0, hb⟩; have n0_ := Aside0.mk (Kd.R_below (by (with_reducible repeat (first | apply Kd.R_alloc | apply Kd.R_drewN | apply Kd.R_drew)); exact HO183.out) hb); have n1_ := Aside0.mk (Kd.N_elder' (by (with_reducible repeat (first | apply Kd.N_alloc | apply Kd.N_drewN | apply Kd.N_drew)); exact HO189.out) (Kd.R_base ho0) hb); have n2_ := Aside0.mk (Kd.R_below (by (with_reducible repeat (first | apply Kd.R_alloc | apply Kd.R_drewN | apply Kd.R_drew)); exact HO192.out) hb); have n3_ := Aside0.mk (Kd.R_lower ho0 (below_size (by repeat (first | (with_reducible first | exact HB.out | apply below_alloc | apply pw_below_drewN | apply below_drew1) | exact HB.out)))); have n4_ := Aside0.mk (below_step (by repeat (first | (with_reducible first | exact HB.out | apply below_alloc | apply pw_below_drewN | apply below_drew1) | exact HB.out)) hb); clear HO183; clear HO189; clear HO192; clear HB; have HO183 := n0_; have HO189 := n1_; have HO192 := n2_; have HO196 := n3_; have HB := n4_; clear n0_ n1_ n2_ n3_ n4_; (try clear hb); (try clear hb2); (try clear hk); (try clear hi); (try clear ho0)) | ((with_reducible refine gate_dst (N := 26) rfl ?_); (try (refine gate_guard (by rfl) ?_; dsimp only)); refine Kd.R_lit k33 _ 33 ?hg (N := 26) ?hd (xs := ([(⟨0, 1⟩ : S33), (⟨0, 2⟩ : S33), (⟨1, 2⟩ : S33)] : List (S33))) (inner := [.int .i64 0, .int .i64 1, .int .i64 0, .int .i64 2, .int .i64 1, .int .i64 2]) (ok := fun _ => True) (okp := fun _ => True) ?hr ?hp (fun _ hk => hk) trivial (Below.refl _ _) (Nat.le_refl _) (by simp) ?_; (case hd => rfl); (case hg => rfl); (case hr => first | (go_simp; done) | (go_simp; rfl)); (case hp => exact (Reps.c2 (show Kd.M k33 _ _ _ (⟨0, 1⟩ : S33) [.int .i64 0, .int .i64 1] from (k33_mkM _ _ _ (⟨0, 1⟩ : S33) )) (Reps.c2 (show Kd.M k33 _ _ _ (⟨0, 2⟩ : S33) [.int .i64 0, .int .i64 2] from (k33_mkM _ _ _ (⟨0, 2⟩ : S33) )) (Reps.c2 (show Kd.M k33 _ _ _ (⟨1, 2⟩ : S33) [.int .i64 1, .int .i64 2] from (k33_mkM _ _ _ (⟨1, 2⟩ : S33) )) (Reps.none _ _))))); intro v198 w40 ho41 hb hg_ hnew_; clear hg_ hnew_; (first | rw [← Ny197.out] at ho41 | (simp only [Int.reduceToNat] at ho41; rw [← Ny197.out] at ho41)); have n0_ := Aside0.mk (Kd.R_below (by (with_reducible repeat (first | apply Kd.R_alloc | apply Kd.R_drewN | apply Kd.R_drew)); exact HO183.out) hb); have n1_ := Aside0.mk (Kd.N_elder' (by (with_reducible repeat (first | apply Kd.N_alloc | apply Kd.N_drewN | apply Kd.N_drew)); exact HO189.out) (Kd.R_base ho41) hb); have n2_ := Aside0.mk (Kd.R_below (by (with_reducible repeat (first | apply Kd.R_alloc | apply Kd.R_drewN | apply Kd.R_drew)); exact HO192.out) hb); have n3_ := Aside0.mk (Kd.R_elder' (by (with_reducible repeat (first | apply Kd.R_alloc | apply Kd.R_drewN | apply Kd.R_drew)); exact HO196.out) (Kd.R_base ho41) hb); have n4_ := Aside0.mk (Kd.R_lower (Kd.R_new' ho41 (Kd.R_lt (by (with_reducible repeat (first | apply Kd.R_alloc | apply Kd.R_drewN | apply Kd.R_drew)); exact HO196.out))) (below_size (by repeat (first | (with_reducible first | exact HB.out | apply below_alloc | apply pw_below_drewN | apply below_drew1) | exact HB.out)))); have n5_ := Aside0.mk (below_step (by repeat (first | (with_reducible first | exact HB.out | apply below_alloc | apply pw_below_drewN | apply below_drew1) | exact HB.out)) hb); clear HO183; clear HO189; clear HO192; clear HO196; clear HB; have HO183 := n0_; have HO189 := n1_; have HO192 := n2_; have HO196 := n3_; have HO199 := n4_; have HB := n5_; clear n0_ n1_ n2_ n3_ n4_ n5_; clear hb ho41; obtain ⟨Ao42, co42, eo42⟩ := Kd.R_slice HO196.out; subst eo42; obtain ⟨Ao43, co43, eo43⟩ := Kd.R_slice HO199.out; subst eo43) | (go_at_call 13; (with_reducible refine (slices_Equal_2_int_2_int.calls k _ _ t194 _ _ y197 false _ ?side1 ?side2 ?side3 ?side4 A6.out).mono ?_); (case side1 => repeat (first | exact (Kd.R_reads' HO196.out).2.2 | (with_reducible refine Kd.C_alloc ?_ _) | (with_reducible refine Kd.C_drewN ?_ _) | (with_reducible refine Kd.C_drew ?_))); (case side2 => exact (Kd.R_reads' HO196.out).2.1); (case side3 => repeat (first | exact (Kd.R_reads' HO199.out).2.2 | (with_reducible refine Kd.C_alloc ?_ _) | (with_reducible refine Kd.C_drewN ?_ _) | (with_reducible refine Kd.C_drew ?_))); (case side4 => exact (Kd.R_reads' HO199.out).2.1); rintro e w' ⟨rfl, ⟨nd, rfl⟩⟩))
        go_ret
        exact ⟨by first | rfl | (simp [errW_none, errW_some] <;> rfl) | (simp [*, errW_none, errW_some] <;> rfl), by repeat (first | (with_reducible first | exact HB.out | apply below_alloc | apply pw_below_drewN | apply below_drew1) | exact HB.out)⟩
    · replace c4 := Bool.eq_false_iff.mpr c4
      subst c4
      have H1 : (some false) = some r := by rw [if_neg (show ¬ (false = true) by decide)] at H; exact H
      clear H
      have H := H1
      clear H1
      obtain rfl := Option.some.inj H
      go_enter Tryd.func8, Tryd.ntmps8
      go_wp2_with (first | ((with_reducible refine gate_callee (f := 9) rfl ?_); refine goesL_ (some 5) rfl rfl Tryd.func9 (by kernel_rfl) rfl #[.int .i64 7, .int .i64 3] rfl (by (try simp only [List.map_toArray, List.map_cons, List.map_nil]); first | done | rfl | (simp only [List.length_drop, List.length_take]; rfl)) ?_; (with_reducible refine (operation_Passes.calls k 7 3 t180 t181 _ A1.out).mono ?_); rintro e w44 ⟨v182, rfl, ho0, hb⟩; refine ⟨_, rfl, ?_⟩; have n0_ := Aside0.mk (Kd.R_lower ho0 (below_size (by repeat (first | (with_reducible first | exact HB.out | apply below_alloc | apply pw_below_drewN | apply below_drew1) | exact HB.out)))); have n1_ := Aside0.mk (below_step (by repeat (first | (with_reducible first | exact HB.out | apply below_alloc | apply pw_below_drewN | apply below_drew1) | exact HB.out)) hb); clear HB; have HO183 := n0_; have HB := n1_; clear n0_ n1_; (try clear hb); (try clear hb2); (try clear hk); (try clear hi); (try clear ho0)) | ((with_reducible refine gate_dst (N := 8) rfl ?_); (try (refine gate_guard (by rfl) ?_; dsimp only)); refine Kd.R_lit (Kd.int .i64) _ 2 ?hg (N := 8) ?hd (xs := ([3, 6] : List Int)) (inner := [.int .i64 3, .int .i64 6]) (ok := fun _ => True) (okp := fun _ => True) ?hr ?hp (fun _ hk => hk) trivial (Below.refl _ _) (Nat.le_refl _) (by simp) ?_; (case hd => rfl); (case hg => rfl); (case hr => first | (go_simp; done) | (go_simp; rfl)); (case hp => exact (Reps.one (show Kd.M (Kd.int .i64) _ _ _ 3 [.int .i64 3] from rfl) (Reps.one (show Kd.M (Kd.int .i64) _ _ _ 6 [.int .i64 6] from rfl) (Reps.none _ _)))); intro v185 w45 ho46 hb hg_ hnew_; clear hg_ hnew_; (first | rw [← Ny184.out] at ho46 | (simp only [Int.reduceToNat] at ho46; rw [← Ny184.out] at ho46)); have n0_ := Aside0.mk (Kd.R_elder' (by (with_reducible repeat (first | apply Kd.R_alloc | apply Kd.R_drewN | apply Kd.R_drew)); exact HO183.out) (Kd.R_base ho46) hb); have n1_ := Aside0.mk (Kd.R_lower (Kd.R_new' ho46 (Kd.R_lt (by (with_reducible repeat (first | apply Kd.R_alloc | apply Kd.R_drewN | apply Kd.R_drew)); exact HO183.out))) (below_size (by repeat (first | (with_reducible first | exact HB.out | apply below_alloc | apply pw_below_drewN | apply below_drew1) | exact HB.out)))); have n2_ := Aside0.mk (below_step (by repeat (first | (with_reducible first | exact HB.out | apply below_alloc | apply pw_below_drewN | apply below_drew1) | exact HB.out)) hb); clear HO183; clear HB; have HO183 := n0_; have HO186 := n1_; have HB := n2_; clear n0_ n1_ n2_; clear hb ho46; obtain ⟨Ao47, co47, eo47⟩ := Kd.R_slice HO186.out; subst eo47) | ((with_reducible refine gate_dst (N := 12) rfl ?_); (try (refine gate_guard (by rfl) ?_; dsimp only)); refine Kd.N_lit k37 _ 37 ?hg (N' := 12) ?hd (xs := ([(⟨1, 0, 0, y184, 0⟩ : S37), (⟨2, 0, 0, ([] : List Int), 0⟩ : S37), (⟨5, 1, 0, ([] : List Int), 0⟩ : S37)] : List (S37))) (inner := [.int .i64 1, .int .i64 0, .int .i64 0, .slice Ao47 y184.length co47, .int .i64 0, .int .i64 2, .int .i64 0, .int .i64 0, .slice none 0 0, .int .i64 0, .int .i64 5, .int .i64 1, .int .i64 0, .slice none 0 0, .int .i64 0]) (ok := (fun k_ => some k_ ≠ (v182 : Value).ownBlock)) (okp := (fun k_ => some k_ ≠ (v182 : Value).ownBlock)) ?hr ?hp (fun _ hk => hk) ((show ∀ k_, w45.heap.size ≤ k_ → (fun k_ => some k_ ≠ (v182 : Value).ownBlock) k_ from fun k_ hk => Kd.fresh' (Kd.R_lt (by (with_reducible repeat (first | apply Kd.R_alloc | apply Kd.R_drewN | apply Kd.R_drew)); exact HO183.out)) k_ hk) _ (Nat.le_refl _)) (Below.refl _ _) (Nat.le_refl _) (by simp) ?_; (case hd => rfl); (case hg => rfl); (case hr => first | (go_simp; done) | (go_simp; rfl)); (case hp => exact (Reps.c5 (show Kd.FK k37 _ _ (⟨1, 0, 0, y184, 0⟩ : S37) [.int .i64 1, .int .i64 0, .int .i64 0, .slice Ao47 y184.length co47, .int .i64 0] from (k37_mkF _ _ (⟨1, 0, 0, y184, 0⟩ : S37) (Kd.R_reads' (Kd.R_mono (ok' := (fun k_ => some k_ ≠ (v182 : Value).ownBlock)) (HO186.out) (fun k_ hk => hk.2))).2.1 (Kd.R_F (Kd.R_mono (ok' := (fun k_ => some k_ ≠ (v182 : Value).ownBlock)) (HO186.out) (fun k_ hk => hk.2))))) (Reps.c5 (show Kd.FK k37 _ _ (⟨2, 0, 0, ([] : List Int), 0⟩ : S37) [.int .i64 2, .int .i64 0, .int .i64 0, .slice none 0 0, .int .i64 0] from (k37_mkF _ _ (⟨2, 0, 0, ([] : List Int), 0⟩ : S37) (Nat.le_refl _) (Kd.F_nil _ _ _))) (Reps.c5 (show Kd.FK k37 _ _ (⟨5, 1, 0, ([] : List Int), 0⟩ : S37) [.int .i64 5, .int .i64 1, .int .i64 0, .slice none 0 0, .int .i64 0] from (k37_mkF _ _ (⟨5, 1, 0, ([] : List Int), 0⟩ : S37) (Nat.le_refl _) (Kd.F_nil _ _ _))) (Reps.none _ _))))); intro v188 w48 ho49 hb hg_ hnew_; clear hg_ hnew_; (first | rw [← Ny187.out] at ho49 | (simp only [Int.reduceToNat] at ho49; rw [← Ny187.out] at ho49)); have n0_ := Aside0.mk (Kd.R_below (by (with_reducible repeat (first | apply Kd.R_alloc | apply Kd.R_drewN | apply Kd.R_drew)); exact HO183.out) hb); have n1_ := Aside0.mk (Kd.N_lower ho49 (below_size (by repeat (first | (with_reducible first | exact HB.out | apply below_alloc | apply pw_below_drewN | apply below_drew1) | exact HB.out)))); have n2_ := Aside0.mk (below_step (by repeat (first | (with_reducible first | exact HB.out | apply below_alloc | apply pw_below_drewN | apply below_drew1) | exact HB.out)) hb); clear HO183; clear HB; clear HO186; have HO183 := n0_; have HO189 := n1_; have HB := n2_; clear n0_ n1_ n2_; clear hb ho49) | ((with_reducible refine gate_dst (N := 17) rfl ?_); (try (refine gate_guard (by rfl) ?_; dsimp only)); refine Kd.R_lit (Kd.int .i64) _ 2 ?hg (N := 17) ?hd (xs := ([3, 5, 7] : List Int)) (inner := [.int .i64 3, .int .i64 5, .int .i64 7]) (ok := fun _ => True) (okp := fun _ => True) ?hr ?hp (fun _ hk => hk) trivial (Below.refl _ _) (Nat.le_refl _) (by simp) ?_; (case hd => rfl); (case hg => rfl); (case hr => first | (go_simp; done) | (go_simp; rfl)); (case hp => exact (Reps.one (show Kd.M (Kd.int .i64) _ _ _ 3 [.int .i64 3] from rfl) (Reps.one (show Kd.M (Kd.int .i64) _ _ _ 5 [.int .i64 5] from rfl) (Reps.one (show Kd.M (Kd.int .i64) _ _ _ 7 [.int .i64 7] from rfl) (Reps.none _ _))))); intro v191 w50 ho51 hb hg_ hnew_; clear hg_ hnew_; (first | rw [← Ny190.out] at ho51 | (simp only [Int.reduceToNat] at ho51; rw [← Ny190.out] at ho51)); have n0_ := Aside0.mk (Kd.R_elder' (by (with_reducible repeat (first | apply Kd.R_alloc | apply Kd.R_drewN | apply Kd.R_drew)); exact HO183.out) (Kd.R_base ho51) hb); have n1_ := Aside0.mk (Kd.N_elder' (by (with_reducible repeat (first | apply Kd.N_alloc | apply Kd.N_drewN | apply Kd.N_drew)); exact HO189.out) (Kd.R_base ho51) hb); have n2_ := Aside0.mk (Kd.R_lower (Kd.R_new' ho51 (Kd.R_lt (by (with_reducible repeat (first | apply Kd.R_alloc | apply Kd.R_drewN | apply Kd.R_drew)); exact HO183.out))) (below_size (by repeat (first | (with_reducible first | exact HB.out | apply below_alloc | apply pw_below_drewN | apply below_drew1) | exact HB.out)))); have n3_ := Aside0.mk (below_step (by repeat (first | (with_reducible first | exact HB.out | apply below_alloc | apply pw_below_drewN | apply below_drew1) | exact HB.out)) hb); clear HO183; clear HO189; clear HB; have HO183 := n0_; have HO189 := n1_; have HO192 := n2_; have HB := n3_; clear n0_ n1_ n2_ n3_; clear hb ho51; obtain ⟨Ao52, co52, eo52⟩ := Kd.R_slice HO183.out; subst eo52; obtain ⟨Ao53, co53, eo53⟩ := Kd.R_slice HO192.out; subst eo53) | (go_at_call 11; (with_reducible refine (slices_Equal_int64_int64.calls k _ _ t180 _ _ y190 false _ ?side1 ?side2 ?side3 ?side4 A3.out).mono ?_); (case side1 => repeat (first | exact (Kd.R_reads' HO183.out).2.2 | (with_reducible refine Kd.C_alloc ?_ _) | (with_reducible refine Kd.C_drewN ?_ _) | (with_reducible refine Kd.C_drew ?_))); (case side2 => exact (Kd.R_reads' HO183.out).2.1); (case side3 => repeat (first | exact (Kd.R_reads' HO192.out).2.2 | (with_reducible refine Kd.C_alloc ?_ _) | (with_reducible refine Kd.C_drewN ?_ _) | (with_reducible refine Kd.C_drew ?_))); (case side4 => exact (Kd.R_reads' HO192.out).2.1); rintro e w' ⟨rfl, ⟨nd, rfl⟩⟩))
      go_ret
      exact ⟨by first | rfl | (simp [errW_none, errW_some] <;> rfl) | (simp [*, errW_none, errW_some] <;> rfl), by repeat (first | (with_reducible first | exact HB.out | apply below_alloc | apply pw_below_drewN | apply below_drew1) | exact HB.out)⟩
  · rw [if_neg c2] at H
    have c2b0 : (t181 == 0) = false := beq_eq_false_iff_ne.mpr c2
    have c2b1 : (t181 != 0) = true := bne_iff_ne.mpr c2
    obtain rfl := Option.some.inj H
    go_enter Tryd.func8, Tryd.ntmps8
    go_wp2_with (first | ((with_reducible refine gate_callee (f := 9) rfl ?_); refine goesL_ (some 5) rfl rfl Tryd.func9 (by kernel_rfl) rfl #[.int .i64 7, .int .i64 3] rfl (by (try simp only [List.map_toArray, List.map_cons, List.map_nil]); first | done | rfl | (simp only [List.length_drop, List.length_take]; rfl)) ?_; (with_reducible refine (operation_Passes.calls k 7 3 t180 t181 _ A1.out).mono ?_); rintro e w54 ⟨v182, rfl, ho0, hb⟩; refine ⟨_, rfl, ?_⟩; have n0_ := Aside0.mk (Kd.R_lower ho0 (below_size (by repeat (first | (with_reducible first | exact HB.out | apply below_alloc | apply pw_below_drewN | apply below_drew1) | exact HB.out)))); have n1_ := Aside0.mk (below_step (by repeat (first | (with_reducible first | exact HB.out | apply below_alloc | apply pw_below_drewN | apply below_drew1) | exact HB.out)) hb); clear HB; have HO183 := n0_; have HB := n1_; clear n0_ n1_; (try clear hb); (try clear hb2); (try clear hk); (try clear hi); (try clear ho0)) | ((with_reducible refine gate_dst (N := 8) rfl ?_); (try (refine gate_guard (by rfl) ?_; dsimp only)); refine Kd.R_lit (Kd.int .i64) _ 2 ?hg (N := 8) ?hd (xs := ([3, 6] : List Int)) (inner := [.int .i64 3, .int .i64 6]) (ok := fun _ => True) (okp := fun _ => True) ?hr ?hp (fun _ hk => hk) trivial (Below.refl _ _) (Nat.le_refl _) (by simp) ?_; (case hd => rfl); (case hg => rfl); (case hr => first | (go_simp; done) | (go_simp; rfl)); (case hp => exact (Reps.one (show Kd.M (Kd.int .i64) _ _ _ 3 [.int .i64 3] from rfl) (Reps.one (show Kd.M (Kd.int .i64) _ _ _ 6 [.int .i64 6] from rfl) (Reps.none _ _)))); intro v185 w55 ho56 hb hg_ hnew_; clear hg_ hnew_; (first | rw [← Ny184.out] at ho56 | (simp only [Int.reduceToNat] at ho56; rw [← Ny184.out] at ho56)); have n0_ := Aside0.mk (Kd.R_elder' (by (with_reducible repeat (first | apply Kd.R_alloc | apply Kd.R_drewN | apply Kd.R_drew)); exact HO183.out) (Kd.R_base ho56) hb); have n1_ := Aside0.mk (Kd.R_lower (Kd.R_new' ho56 (Kd.R_lt (by (with_reducible repeat (first | apply Kd.R_alloc | apply Kd.R_drewN | apply Kd.R_drew)); exact HO183.out))) (below_size (by repeat (first | (with_reducible first | exact HB.out | apply below_alloc | apply pw_below_drewN | apply below_drew1) | exact HB.out)))); have n2_ := Aside0.mk (below_step (by repeat (first | (with_reducible first | exact HB.out | apply below_alloc | apply pw_below_drewN | apply below_drew1) | exact HB.out)) hb); clear HO183; clear HB; have HO183 := n0_; have HO186 := n1_; have HB := n2_; clear n0_ n1_ n2_; clear hb ho56; obtain ⟨Ao57, co57, eo57⟩ := Kd.R_slice HO186.out; subst eo57) | ((with_reducible refine gate_dst (N := 12) rfl ?_); (try (refine gate_guard (by rfl) ?_; dsimp only)); refine Kd.N_lit k37 _ 37 ?hg (N' := 12) ?hd (xs := ([(⟨1, 0, 0, y184, 0⟩ : S37), (⟨2, 0, 0, ([] : List Int), 0⟩ : S37), (⟨5, 1, 0, ([] : List Int), 0⟩ : S37)] : List (S37))) (inner := [.int .i64 1, .int .i64 0, .int .i64 0, .slice Ao57 y184.length co57, .int .i64 0, .int .i64 2, .int .i64 0, .int .i64 0, .slice none 0 0, .int .i64 0, .int .i64 5, .int .i64 1, .int .i64 0, .slice none 0 0, .int .i64 0]) (ok := (fun k_ => some k_ ≠ (v182 : Value).ownBlock)) (okp := (fun k_ => some k_ ≠ (v182 : Value).ownBlock)) ?hr ?hp (fun _ hk => hk) ((show ∀ k_, w55.heap.size ≤ k_ → (fun k_ => some k_ ≠ (v182 : Value).ownBlock) k_ from fun k_ hk => Kd.fresh' (Kd.R_lt (by (with_reducible repeat (first | apply Kd.R_alloc | apply Kd.R_drewN | apply Kd.R_drew)); exact HO183.out)) k_ hk) _ (Nat.le_refl _)) (Below.refl _ _) (Nat.le_refl _) (by simp) ?_; (case hd => rfl); (case hg => rfl); (case hr => first | (go_simp; done) | (go_simp; rfl)); (case hp => exact (Reps.c5 (show Kd.FK k37 _ _ (⟨1, 0, 0, y184, 0⟩ : S37) [.int .i64 1, .int .i64 0, .int .i64 0, .slice Ao57 y184.length co57, .int .i64 0] from (k37_mkF _ _ (⟨1, 0, 0, y184, 0⟩ : S37) (Kd.R_reads' (Kd.R_mono (ok' := (fun k_ => some k_ ≠ (v182 : Value).ownBlock)) (HO186.out) (fun k_ hk => hk.2))).2.1 (Kd.R_F (Kd.R_mono (ok' := (fun k_ => some k_ ≠ (v182 : Value).ownBlock)) (HO186.out) (fun k_ hk => hk.2))))) (Reps.c5 (show Kd.FK k37 _ _ (⟨2, 0, 0, ([] : List Int), 0⟩ : S37) [.int .i64 2, .int .i64 0, .int .i64 0, .slice none 0 0, .int .i64 0] from (k37_mkF _ _ (⟨2, 0, 0, ([] : List Int), 0⟩ : S37) (Nat.le_refl _) (Kd.F_nil _ _ _))) (Reps.c5 (show Kd.FK k37 _ _ (⟨5, 1, 0, ([] : List Int), 0⟩ : S37) [.int .i64 5, .int .i64 1, .int .i64 0, .slice none 0 0, .int .i64 0] from (k37_mkF _ _ (⟨5, 1, 0, ([] : List Int), 0⟩ : S37) (Nat.le_refl _) (Kd.F_nil _ _ _))) (Reps.none _ _))))); intro v188 w58 ho59 hb hg_ hnew_; clear hg_ hnew_; (first | rw [← Ny187.out] at ho59 | (simp only [Int.reduceToNat] at ho59; rw [← Ny187.out] at ho59)); have n0_ := Aside0.mk (Kd.R_below (by (with_reducible repeat (first | apply Kd.R_alloc | apply Kd.R_drewN | apply Kd.R_drew)); exact HO183.out) hb); have n1_ := Aside0.mk (Kd.N_lower ho59 (below_size (by repeat (first | (with_reducible first | exact HB.out | apply below_alloc | apply pw_below_drewN | apply below_drew1) | exact HB.out)))); have n2_ := Aside0.mk (below_step (by repeat (first | (with_reducible first | exact HB.out | apply below_alloc | apply pw_below_drewN | apply below_drew1) | exact HB.out)) hb); clear HO183; clear HB; clear HO186; have HO183 := n0_; have HO189 := n1_; have HB := n2_; clear n0_ n1_ n2_; clear hb ho59))
    go_ret
    exact ⟨by first | rfl | (simp [errW_none, errW_some] <;> rfl) | (simp [*, errW_none, errW_some] <;> rfl), by repeat (first | (with_reducible first | exact HB.out | apply below_alloc | apply pw_below_drewN | apply below_drew1) | exact HB.out)⟩

/-! ### swarflaw28_OperationPasses: function 3 -/
def swarflaw28_OperationPasses.f (k : Nat) (a0 : Int) (a1 : Int) : Option (Bool) := (swarflaw28_awake.f k).bind fun t207 => (if t207 = true then ((operation_Passes.f k a0 a1).bind fun bt208 => ((swarfref28_Passes.f k a0 a1).bind fun bt212 => (if bt208.2 = bt212.2 then ((slices_Equal_int64_int64.f k bt208.1 bt212.1).bind fun t216 => (some t216)) else (some false)))) else (some false))
theorem swarflaw28_OperationPasses.mono : ∀ a0 a1 k, LeO (swarflaw28_OperationPasses.f k a0 a1) (swarflaw28_OperationPasses.f (k + 1) a0 a1) := by
  intro a0 a1 k
  unfold swarflaw28_OperationPasses.f
  repeat' first
      | (with_reducible exact operation_Passes.mono _ _ _)
      | (with_reducible exact slices_Equal_int64_int64.mono _ _ _)
      | (with_reducible exact swarflaw28_awake.mono _)
      | (with_reducible exact swarfref28_Passes.mono _ _ _)
      | (with_reducible exact LeO.refl _)
      | (with_reducible exact LeO.none _)
      | (with_reducible refine LeO.ite ?_ ?_)
      | (with_reducible refine LeO.bind ?_ (fun _ => ?_))
      | exact operation_Passes.mono _ _ _
      | exact slices_Equal_int64_int64.mono _ _ _
      | exact swarflaw28_awake.mono _
      | exact swarfref28_Passes.mono _ _ _
      | exact LeO.none _
      | refine LeO.ite ?_ ?_
      | refine LeO.bind ?_ (fun _ => ?_)
set_option maxHeartbeats 8000000 in
set_option maxRecDepth 100000 in
theorem swarflaw28_OperationPasses.calls (k : Nat) (a0 : Int) (a1 : Int) (r : Bool) (w : World) (h : swarflaw28_OperationPasses.f k a0 a1 = some r) (hT : Tryd.TabOk w) :
    Calls Tryd.prog 3 #[.int .i64 a0, .int .i64 a1] w fun e w' => e = .returned (.bool r) ∧ Below w.heap.size w w' := by
  have HB := Aside0.mk (Below.refl w.heap.size w)
  have H : ((swarflaw28_awake.f k).bind fun t207 => (if t207 = true then ((operation_Passes.f k a0 a1).bind fun bt208 => ((swarfref28_Passes.f k a0 a1).bind fun bt212 => (if bt208.2 = bt212.2 then ((slices_Equal_int64_int64.f k bt208.1 bt212.1).bind fun t216 => (some t216)) else (some false)))) else (some false))) = some r := h
  clear h
  replace H := Option.bind_eq_some_iff.mp H
  obtain ⟨t207, A30, H⟩ := H
  replace H : (if t207 = true then ((operation_Passes.f k a0 a1).bind fun bt208 => ((swarfref28_Passes.f k a0 a1).bind fun bt212 => (if bt208.2 = bt212.2 then ((slices_Equal_int64_int64.f k bt208.1 bt212.1).bind fun t216 => (some t216)) else (some false)))) else (some false)) = some r := H
  have A3 := Aside0.mk A30
  clear A30
  by_cases c4 : t207 = true
  · subst c4
    have H1 : ((operation_Passes.f k a0 a1).bind fun bt208 => ((swarfref28_Passes.f k a0 a1).bind fun bt212 => (if bt208.2 = bt212.2 then ((slices_Equal_int64_int64.f k bt208.1 bt212.1).bind fun t216 => (some t216)) else (some false)))) = some r := by rw [if_pos rfl] at H; exact H
    clear H
    have H := H1
    clear H1
    replace H := Option.bind_eq_some_iff.mp H
    obtain ⟨⟨t208, t209⟩, A50, H⟩ := H
    replace H : ((swarfref28_Passes.f k a0 a1).bind fun bt212 => (if t209 = bt212.2 then ((slices_Equal_int64_int64.f k t208 bt212.1).bind fun t216 => (some t216)) else (some false))) = some r := H
    have A5 := Aside0.mk A50
    clear A50
    replace H := Option.bind_eq_some_iff.mp H
    obtain ⟨⟨t212, t213⟩, A60, H⟩ := H
    replace H : (if t209 = t213 then ((slices_Equal_int64_int64.f k t208 t212).bind fun t216 => (some t216)) else (some false)) = some r := H
    have A6 := Aside0.mk A60
    clear A60
    by_cases c7 : t209 = t213
    · rw [if_pos c7] at H
      have c7b0 : (t209 == t213) = true := beq_iff_eq.mpr c7
      have c7b1 : (t209 != t213) = false := bne_eq_false_iff_eq.mpr c7
      clear c7
      replace H := Option.bind_eq_some_iff.mp H
      obtain ⟨t216, A80, H⟩ := H
      replace H : (some t216) = some r := H
      have A8 := Aside0.mk A80
      clear A80
      obtain rfl := Option.some.inj H
      go_enter Tryd.func3, Tryd.ntmps3
      go_wp2_with (first | ((with_reducible refine gate_callee (f := 8) rfl ?_); refine goesL_ (some 9) rfl rfl Tryd.func8 (by kernel_rfl) rfl #[] rfl (by (try simp only [List.map_toArray, List.map_cons, List.map_nil]); first | done | rfl | (simp only [List.length_drop, List.length_take]; rfl)) ?_; (with_reducible refine (swarflaw28_awake.calls k  true _ A3.out (hT.below (by repeat (first | (with_reducible first | exact HB.out | apply below_alloc | apply pw_below_drewN | apply below_drew1) | exact HB.out)))).mono ?_); rintro e w9 ⟨rfl, hb⟩; refine ⟨_, rfl, ?_⟩; have n0_ := Aside0.mk (below_step (by repeat (first | (with_reducible first | exact HB.out | apply below_alloc | apply pw_below_drewN | apply below_drew1) | exact HB.out)) hb); clear HB; have HB := n0_; clear n0_; (try clear hb); (try clear hb2); (try clear hk); (try clear hi)) | ((with_reducible refine gate_callee (f := 9) rfl ?_); refine goesL_ (some 14) rfl rfl Tryd.func9 (by kernel_rfl) rfl #[.int .i64 a0, .int .i64 a1] rfl (by (try simp only [List.map_toArray, List.map_cons, List.map_nil]); first | done | rfl | (simp only [List.length_drop, List.length_take]; rfl)) ?_; (with_reducible refine (operation_Passes.calls k a0 a1 t208 t209 _ A5.out).mono ?_); rintro e w10 ⟨v210, rfl, ho0, hb⟩; refine ⟨_, rfl, ?_⟩; have n0_ := Aside0.mk (Kd.R_lower ho0 (below_size (by repeat (first | (with_reducible first | exact HB.out | apply below_alloc | apply pw_below_drewN | apply below_drew1) | exact HB.out)))); have n1_ := Aside0.mk (below_step (by repeat (first | (with_reducible first | exact HB.out | apply below_alloc | apply pw_below_drewN | apply below_drew1) | exact HB.out)) hb); clear HB; have HO211 := n0_; have HB := n1_; clear n0_ n1_; (try clear hb); (try clear hb2); (try clear hk); (try clear hi); (try clear ho0)) | ((with_reducible refine gate_callee (f := 10) rfl ?_); refine goesL_ (some 20) rfl rfl Tryd.func10 (by kernel_rfl) rfl #[.int .i64 a0, .int .i64 a1] rfl (by (try simp only [List.map_toArray, List.map_cons, List.map_nil]); first | done | rfl | (simp only [List.length_drop, List.length_take]; rfl)) ?_; (with_reducible refine (swarfref28_Passes.calls k a0 a1 t212 t213 _ A6.out).mono ?_); rintro e w11 ⟨v214, rfl, ho0, hb⟩; refine ⟨_, rfl, ?_⟩; have n0_ := Aside0.mk (Kd.R_elder' (by (with_reducible repeat (first | apply Kd.R_alloc | apply Kd.R_drewN | apply Kd.R_drew)); exact HO211.out) (Kd.R_base ho0) hb); have n1_ := Aside0.mk (Kd.R_lower (Kd.R_new' ho0 (Kd.R_lt (by (with_reducible repeat (first | apply Kd.R_alloc | apply Kd.R_drewN | apply Kd.R_drew)); exact HO211.out))) (below_size (by repeat (first | (with_reducible first | exact HB.out | apply below_alloc | apply pw_below_drewN | apply below_drew1) | exact HB.out)))); have n2_ := Aside0.mk (below_step (by repeat (first | (with_reducible first | exact HB.out | apply below_alloc | apply pw_below_drewN | apply below_drew1) | exact HB.out)) hb); clear HO211; clear HB; have HO211 := n0_; have HO215 := n1_; have HB := n2_; clear n0_ n1_ n2_; (try clear hb); (try clear hb2); (try clear hk); (try clear hi); (try clear ho0); obtain ⟨Ao12, co12, eo12⟩ := Kd.R_slice HO211.out; subst eo12; obtain ⟨Ao13, co13, eo13⟩ := Kd.R_slice HO215.out; subst eo13) | (go_at_call 11; (with_reducible refine (slices_Equal_int64_int64.calls k _ _ t208 _ _ t212 t216 _ ?side1 ?side2 ?side3 ?side4 A8.out).mono ?_); (case side1 => repeat (first | exact (Kd.R_reads' HO211.out).2.2 | (with_reducible refine Kd.C_alloc ?_ _) | (with_reducible refine Kd.C_drewN ?_ _) | (with_reducible refine Kd.C_drew ?_))); (case side2 => exact (Kd.R_reads' HO211.out).2.1); (case side3 => repeat (first | exact (Kd.R_reads' HO215.out).2.2 | (with_reducible refine Kd.C_alloc ?_ _) | (with_reducible refine Kd.C_drewN ?_ _) | (with_reducible refine Kd.C_drew ?_))); (case side4 => exact (Kd.R_reads' HO215.out).2.1); rintro e w' ⟨rfl, ⟨nd, rfl⟩⟩))
      go_ret
      exact ⟨by first | rfl | (simp [errW_none, errW_some] <;> rfl) | (simp [*, errW_none, errW_some] <;> rfl), by repeat (first | (with_reducible first | exact HB.out | apply below_alloc | apply pw_below_drewN | apply below_drew1) | exact HB.out)⟩
    · rw [if_neg c7] at H
      have c7b0 : (t209 == t213) = false := beq_eq_false_iff_ne.mpr c7
      have c7b1 : (t209 != t213) = true := bne_iff_ne.mpr c7
      obtain rfl := Option.some.inj H
      go_enter Tryd.func3, Tryd.ntmps3
      go_wp2_with (first | ((with_reducible refine gate_callee (f := 8) rfl ?_); refine goesL_ (some 9) rfl rfl Tryd.func8 (by kernel_rfl) rfl #[] rfl (by (try simp only [List.map_toArray, List.map_cons, List.map_nil]); first | done | rfl | (simp only [List.length_drop, List.length_take]; rfl)) ?_; (with_reducible refine (swarflaw28_awake.calls k  true _ A3.out (hT.below (by repeat (first | (with_reducible first | exact HB.out | apply below_alloc | apply pw_below_drewN | apply below_drew1) | exact HB.out)))).mono ?_); rintro e w14 ⟨rfl, hb⟩; refine ⟨_, rfl, ?_⟩; have n0_ := Aside0.mk (below_step (by repeat (first | (with_reducible first | exact HB.out | apply below_alloc | apply pw_below_drewN | apply below_drew1) | exact HB.out)) hb); clear HB; have HB := n0_; clear n0_; (try clear hb); (try clear hb2); (try clear hk); (try clear hi)) | ((with_reducible refine gate_callee (f := 9) rfl ?_); refine goesL_ (some 14) rfl rfl Tryd.func9 (by kernel_rfl) rfl #[.int .i64 a0, .int .i64 a1] rfl (by (try simp only [List.map_toArray, List.map_cons, List.map_nil]); first | done | rfl | (simp only [List.length_drop, List.length_take]; rfl)) ?_; (with_reducible refine (operation_Passes.calls k a0 a1 t208 t209 _ A5.out).mono ?_); rintro e w15 ⟨v210, rfl, ho0, hb⟩; refine ⟨_, rfl, ?_⟩; have n0_ := Aside0.mk (Kd.R_lower ho0 (below_size (by repeat (first | (with_reducible first | exact HB.out | apply below_alloc | apply pw_below_drewN | apply below_drew1) | exact HB.out)))); have n1_ := Aside0.mk (below_step (by repeat (first | (with_reducible first | exact HB.out | apply below_alloc | apply pw_below_drewN | apply below_drew1) | exact HB.out)) hb); clear HB; have HO211 := n0_; have HB := n1_; clear n0_ n1_; (try clear hb); (try clear hb2); (try clear hk); (try clear hi); (try clear ho0)) | ((with_reducible refine gate_callee (f := 10) rfl ?_); refine goesL_ (some 20) rfl rfl Tryd.func10 (by kernel_rfl) rfl #[.int .i64 a0, .int .i64 a1] rfl (by (try simp only [List.map_toArray, List.map_cons, List.map_nil]); first | done | rfl | (simp only [List.length_drop, List.length_take]; rfl)) ?_; (with_reducible refine (swarfref28_Passes.calls k a0 a1 t212 t213 _ A6.out).mono ?_); rintro e w16 ⟨v214, rfl, ho0, hb⟩; refine ⟨_, rfl, ?_⟩; have n0_ := Aside0.mk (Kd.R_elder' (by (with_reducible repeat (first | apply Kd.R_alloc | apply Kd.R_drewN | apply Kd.R_drew)); exact HO211.out) (Kd.R_base ho0) hb); have n1_ := Aside0.mk (Kd.R_lower (Kd.R_new' ho0 (Kd.R_lt (by (with_reducible repeat (first | apply Kd.R_alloc | apply Kd.R_drewN | apply Kd.R_drew)); exact HO211.out))) (below_size (by repeat (first | (with_reducible first | exact HB.out | apply below_alloc | apply pw_below_drewN | apply below_drew1) | exact HB.out)))); have n2_ := Aside0.mk (below_step (by repeat (first | (with_reducible first | exact HB.out | apply below_alloc | apply pw_below_drewN | apply below_drew1) | exact HB.out)) hb); clear HO211; clear HB; have HO211 := n0_; have HO215 := n1_; have HB := n2_; clear n0_ n1_ n2_; (try clear hb); (try clear hb2); (try clear hk); (try clear hi); (try clear ho0)))
      go_ret
      exact ⟨by first | rfl | (simp [errW_none, errW_some] <;> rfl) | (simp [*, errW_none, errW_some] <;> rfl), by repeat (first | (with_reducible first | exact HB.out | apply below_alloc | apply pw_below_drewN | apply below_drew1) | exact HB.out)⟩
  · replace c4 := Bool.eq_false_iff.mpr c4
    subst c4
    have H1 : (some false) = some r := by rw [if_neg (show ¬ (false = true) by decide)] at H; exact H
    clear H
    have H := H1
    clear H1
    obtain rfl := Option.some.inj H
    go_enter Tryd.func3, Tryd.ntmps3
    go_wp2_with (first | ((with_reducible refine gate_callee (f := 8) rfl ?_); refine goesL_ (some 9) rfl rfl Tryd.func8 (by kernel_rfl) rfl #[] rfl (by (try simp only [List.map_toArray, List.map_cons, List.map_nil]); first | done | rfl | (simp only [List.length_drop, List.length_take]; rfl)) ?_; (with_reducible refine (swarflaw28_awake.calls k  false _ A3.out (hT.below (by repeat (first | (with_reducible first | exact HB.out | apply below_alloc | apply pw_below_drewN | apply below_drew1) | exact HB.out)))).mono ?_); rintro e w17 ⟨rfl, hb⟩; refine ⟨_, rfl, ?_⟩; have n0_ := Aside0.mk (below_step (by repeat (first | (with_reducible first | exact HB.out | apply below_alloc | apply pw_below_drewN | apply below_drew1) | exact HB.out)) hb); clear HB; have HB := n0_; clear n0_; (try clear hb); (try clear hb2); (try clear hk); (try clear hi)))
    go_ret
    exact ⟨by first | rfl | (simp [errW_none, errW_some] <;> rfl) | (simp [*, errW_none, errW_some] <;> rfl), by repeat (first | (with_reducible first | exact HB.out | apply below_alloc | apply pw_below_drewN | apply below_drew1) | exact HB.out)⟩

end Go.Proofs.YtlhfafklpchihaaDoor.MAll

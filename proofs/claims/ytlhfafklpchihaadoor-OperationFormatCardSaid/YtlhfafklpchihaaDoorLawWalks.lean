/- The laws OperationNeeds and OperationTools return true at whatever operations and tools. -/
import Derived.Test.YtlhfafklpchihaaDoorNeedsPure
import Derived.Test.YtlhfafklpchihaaDoorClone
namespace Go.Proofs.YtlhfafklpchihaaDoor.MAll
open Go.RowKit Go.Proofs.YtlhfafklpchihaaDoorW.PrintWords Go.Proofs.YtlhfafklpchihaaDoorW.PrintLast Go.Proofs.YtlhfafklpchihaaDoorW.PrintMore
set_option linter.unusedVariables false
theorem bel_drawn {w w1 w2 : World} (h : Below w.heap.size w w1) (k : Drawn0 w1 w2) : Below w.heap.size w w2 := below_then h h.size k.below
theorem R_back {α : Type} {d : Kd α} {e base : Nat} {ok : Nat → Prop} {w : World} {v : Value} {xs : List α} (h : d.R e w base ok v xs) : ∃ A c, v = .slice A xs.length c ∧ xs.length ≤ c ∧ d.C w A xs.length xs := Kd.R_reads h
theorem law_Needs_few (A0 : Option Addr) (c0 : Nat) (l0 : List S37) (w : World) (hr0 : Kd.C k37 w A0 l0.length l0) (hc0 : l0.length ≤ c0) (hf : swarfref28_Few.f (l0.length + 1) l0 20 = some false) (hT : Tryd.TabOk w) :
    Calls Tryd.prog 5 #[.slice A0 l0.length c0] w fun e w' => e = .returned (.bool true) ∧ Below w.heap.size w w' := by
  have HR := Lib.hid hr0; clear hr0
  have HC := Lib.hid hc0; clear hc0
  have HF := Lib.hid hf; clear hf
  go_enter Tryd.func5, Tryd.ntmps5
  go_wp2_with (first
    | (go_at_call 8; (with_reducible refine (swarflaw28_awake.calls 3000 true _ (awake_true 3000 (by decide)) hT).mono ?_); rintro e w1 ⟨rfl, hb1⟩)
    | (go_at_call 12; (with_reducible refine (swarfref28_Few.calls _ _ _ l0 20 _ _ (Kd.C_below HR.out hb1) HC.out HF.out).mono ?_); rintro e w2 ⟨rfl, hd2⟩))
  go_ret
  exact ⟨rfl, bel_drawn hb1 hd2⟩
theorem law_Needs_many (A0 : Option Addr) (c0 : Nat) (l0 : List S37) (w : World) (hr0 : Kd.C k37 w A0 l0.length l0) (hc0 : l0.length ≤ c0) (hf : swarfref28_Few.f (l0.length + 1) l0 20 = some true) (hl : l0.length ≤ 20) (hT : Tryd.TabOk w) :
    Calls Tryd.prog 5 #[.slice A0 l0.length c0] w fun e w' => e = .returned (.bool true) ∧ Below w.heap.size w w' := by
  have HR := Lib.hid hr0; clear hr0
  have HC := Lib.hid hc0; clear hc0
  have HF := Lib.hid hf; clear hf
  obtain ⟨r, hp, hq, hrl⟩ := needs_eq l0 hl
  have HP := Lib.hid hp; clear hp
  have HQ := Lib.hid hq; clear hq
  have HE := Lib.hid (eq2_self r (by omega) 2000 (by omega))
  go_enter Tryd.func5, Tryd.ntmps5
  go_wp2_with (first
    | (go_at_call 8; (with_reducible refine (swarflaw28_awake.calls 3000 true _ (awake_true 3000 (by decide)) hT).mono ?_); rintro e w1 ⟨rfl, hb1⟩)
    | (go_at_call 12; (with_reducible refine (swarfref28_Few.calls _ _ _ l0 20 _ _ (Kd.C_below HR.out hb1) HC.out HF.out).mono ?_); rintro e w2 ⟨rfl, hd2⟩; have hb2 := bel_drawn hb1 hd2; clear hd2)
    | (go_at_call 15; (with_reducible refine (slices_Clone_Operation.calls _ _ l0 _ (Kd.C_below HR.out hb2) HC.out (by omega)).mono ?_); rintro e w3 ⟨A1, c1, rfl, hc1, hC1, hb3⟩; have HC1 := Lib.hid hC1; clear hC1)
    | (go_at_call 14; (with_reducible refine (operation_Needs.calls 2000 _ _ l0 r _ HC1.out hc1 HP.out).mono ?_); rintro e w4 ⟨v4, rfl, hR4, hb4⟩; obtain ⟨A4, c4, rfl, hc4, hC4⟩ := R_back hR4; clear hR4; have HC4 := Lib.hid hC4; clear hC4; have hb5 := below_then (below_then hb2 hb2.size hb3) (Nat.le_trans hb2.size hb3.size) hb4)
    | (go_at_call 16; (with_reducible refine (swarfref28_Needs.calls 2000 _ _ l0 r _ (Kd.C_below HR.out hb5) HC.out HQ.out).mono ?_); rintro e w6 ⟨v6, rfl, hR6, hb6⟩; obtain ⟨A6, c6, rfl, hc6, hC6⟩ := R_back hR6; clear hR6; have HC6 := Lib.hid hC6; clear hC6)
    | (go_at_call 13; (with_reducible refine (slices_Equal_2_int_2_int.calls 2000 _ _ r _ _ r true _ (Kd.C_below HC4.out hb6) hc4 HC6.out hc6 HE.out).mono ?_); rintro e w7 ⟨rfl, hd7⟩))
  go_ret
  exact ⟨rfl, bel_drawn (below_then hb5 hb5.size hb6) hd7⟩
theorem law_Tools_few (A0 : Option Addr) (c0 : Nat) (l0 : List S37) (A1 : Option Addr) (c1 : Nat) (l1 : List S46) (kind : Int) (w : World) (hr0 : Kd.C k37 w A0 l0.length l0) (hc0 : l0.length ≤ c0) (hf : swarfref28_Few.f (l0.length + 1) l0 20 = some false) (hT : Tryd.TabOk w) :
    Calls Tryd.prog 7 #[.slice A0 l0.length c0, .slice A1 l1.length c1, .int .i64 kind] w fun e w' => e = .returned (.bool true) ∧ Below w.heap.size w w' := by
  have HR := Lib.hid hr0; clear hr0
  have HC := Lib.hid hc0; clear hc0
  have HF := Lib.hid hf; clear hf
  go_enter Tryd.func7, Tryd.ntmps7
  go_wp2_with (first
    | (go_at_call 8; (with_reducible refine (swarflaw28_awake.calls 3000 true _ (awake_true 3000 (by decide)) hT).mono ?_); rintro e w1 ⟨rfl, hb1⟩)
    | (go_at_call 12; (with_reducible refine (swarfref28_Few.calls _ _ _ l0 20 _ _ (Kd.C_below HR.out hb1) HC.out HF.out).mono ?_); rintro e w2 ⟨rfl, hd2⟩))
  go_ret
  exact ⟨rfl, bel_drawn hb1 hd2⟩
theorem law_Tools_long (A0 : Option Addr) (c0 : Nat) (l0 : List S37) (A1 : Option Addr) (c1 : Nat) (l1 : List S46) (kind : Int) (w : World) (hr0 : Kd.C k37 w A0 l0.length l0) (hc0 : l0.length ≤ c0) (hf : swarfref28_Few.f (l0.length + 1) l0 20 = some true) (hm : 20 < l1.length) (hT : Tryd.TabOk w) :
    Calls Tryd.prog 7 #[.slice A0 l0.length c0, .slice A1 l1.length c1, .int .i64 kind] w fun e w' => e = .returned (.bool true) ∧ Below w.heap.size w w' := by
  have HR := Lib.hid hr0; clear hr0
  have HC := Lib.hid hc0; clear hc0
  have HF := Lib.hid hf; clear hf
  have hm' : decide ((20 : Int) < (l1.length : Int)) = true := decide_eq_true (by omega)
  go_enter Tryd.func7, Tryd.ntmps7
  go_wp2_with (first
    | (go_at_call 8; (with_reducible refine (swarflaw28_awake.calls 3000 true _ (awake_true 3000 (by decide)) hT).mono ?_); rintro e w1 ⟨rfl, hb1⟩)
    | (go_at_call 12; (with_reducible refine (swarfref28_Few.calls _ _ _ l0 20 _ _ (Kd.C_below HR.out hb1) HC.out HF.out).mono ?_); rintro e w2 ⟨rfl, hd2⟩))
  go_ret
  exact ⟨rfl, bel_drawn hb1 hd2⟩
theorem law_Tools_main (A0 : Option Addr) (c0 : Nat) (l0 : List S37) (A1 : Option Addr) (c1 : Nat) (l1 : List S46) (kind : Int) (w : World) (hr0 : Kd.C k37 w A0 l0.length l0) (hc0 : l0.length ≤ c0) (hr1 : Kd.C k46 w A1 l1.length l1) (hc1 : l1.length ≤ c1) (hf : swarfref28_Few.f (l0.length + 1) l0 20 = some true) (hl : l0.length ≤ 20) (hm : l1.length ≤ 20) (hT : Tryd.TabOk w) :
    Calls Tryd.prog 7 #[.slice A0 l0.length c0, .slice A1 l1.length c1, .int .i64 kind] w fun e w' => e = .returned (.bool true) ∧ Below w.heap.size w w' := by
  have HR := Lib.hid hr0; clear hr0
  have HC := Lib.hid hc0; clear hc0
  have HS := Lib.hid hr1; clear hr1
  have HD := Lib.hid hc1; clear hc1
  have HF := Lib.hid hf; clear hf
  have hm' : decide ((20 : Int) < (l1.length : Int)) = false := decide_eq_false (by omega)
  obtain ⟨⟨r1, r2⟩, hp, hq, hrl⟩ := tools_eq l0 l1 hl hm
  have HP := Lib.hid hp; clear hp
  have HQ := Lib.hid hq; clear hq
  have HE := Lib.hid (eqi_self r1 (by simp only at hrl; omega) 2000 (by simp only at hrl; omega))
  clear hrl
  obtain ⟨nm, hnm⟩ : ∃ nm, nm = knm kind := ⟨_, rfl⟩
  have HK := Lib.hid (show operation_KindName.f kind = some nm by rw [hnm]; exact kind_f kind)
  have HK' := Lib.hid (show swarfref28_KindName.f kind = some nm by rw [hnm]; exact kind_ref kind)
  clear hnm
  go_enter Tryd.func7, Tryd.ntmps7
  go_wp2_with (first
    | (go_at_call 8; (with_reducible refine (swarflaw28_awake.calls 3000 true _ (awake_true 3000 (by decide)) hT).mono ?_); rintro e w1 ⟨rfl, hb1⟩)
    | (go_at_call 12; (with_reducible refine (swarfref28_Few.calls _ _ _ l0 20 _ _ (Kd.C_below HR.out hb1) HC.out HF.out).mono ?_); rintro e w2 ⟨rfl, hd2⟩; have hb2 := bel_drawn hb1 hd2; clear hd2)
    | (go_at_call 15; (with_reducible refine (slices_Clone_Operation.calls _ _ l0 _ (Kd.C_below HR.out hb2) HC.out (by omega)).mono ?_); rintro e w3 ⟨A3, c3, rfl, hc3, hC3, hb3⟩; have HC3 := Lib.hid hC3; clear hC3; have hb3' := below_then hb2 hb2.size hb3)
    | (go_at_call 20; (with_reducible refine (slices_Clone_Tool.calls _ _ l1 _ (Kd.C_below HS.out hb3') HD.out (by omega)).mono ?_); rintro e w4 ⟨A4, c4, rfl, hc4, hC4, hb4⟩; have HC4 := Lib.hid hC4; clear hC4; have hb4' := below_then hb3' hb3'.size hb4)
    | (go_at_call 19; (with_reducible refine (operation_Tools.calls 50 _ _ l0 _ _ l1 r1 r2 _ (Kd.C_below HC3.out hb4) hc3 HC4.out hc4 HP.out).mono ?_); rintro e w5 ⟨v5, rfl, hR5, hb5⟩; obtain ⟨A5, c5, rfl, hc5, hC5⟩ := R_back hR5; clear hR5; have HC5 := Lib.hid hC5; clear hC5; have hb5' := below_then hb4' hb4'.size hb5)
    | (go_at_call 21; (with_reducible refine (swarfref28_Tools.calls 50 _ _ l0 _ _ l1 r1 r2 _ (Kd.C_below HR.out hb5') HC.out (Kd.C_below HS.out hb5') HD.out HQ.out).mono ?_); rintro e w6 ⟨v6, rfl, hR6, hb6⟩; obtain ⟨A6, c6, rfl, hc6, hC6⟩ := R_back hR6; clear hR6; have HC6 := Lib.hid hC6; clear hC6; have hb6' := below_then hb5' hb5'.size hb6)
    | (go_at_call 22; (with_reducible refine (slices_Equal_int_int.calls 2000 _ _ r1 _ _ r1 true _ (Kd.C_below HC5.out hb6) hc5 HC6.out hc6 HE.out).mono ?_); rintro e w7 ⟨rfl, hd7⟩; have hb7' := bel_drawn hb6' hd7; clear hd7)
    | (go_at_call 23; (with_reducible refine (operation_KindName.calls _ nm _ HK.out).mono ?_); rintro e w8 ⟨rfl, hb8⟩; have hb8' := below_then hb7' hb7'.size hb8)
    | (go_at_call 24; (with_reducible refine (swarfref28_KindName.calls _ nm _ HK'.out).mono ?_); rintro e w9 ⟨rfl, hd9⟩))
  go_ret
  exact ⟨rfl, bel_drawn hb8' hd9⟩
theorem law_Needs (A0 : Option Addr) (c0 : Nat) (l0 : List S37) (w : World) (hr0 : Kd.C k37 w A0 l0.length l0) (hc0 : l0.length ≤ c0) (hT : Tryd.TabOk w) :
    Calls Tryd.prog 5 #[.slice A0 l0.length c0] w fun e w' => e = .returned (.bool true) ∧ Below w.heap.size w w' := by
  obtain ⟨b, hf, hb⟩ := few_some l0 (Kd.C_max hr0)
  cases b with
  | false => exact law_Needs_few A0 c0 l0 w hr0 hc0 hf hT
  | true => exact law_Needs_many A0 c0 l0 w hr0 hc0 hf (hb rfl).1 hT
theorem law_Tools (A0 : Option Addr) (c0 : Nat) (l0 : List S37) (A1 : Option Addr) (c1 : Nat) (l1 : List S46) (kind : Int) (w : World) (hr0 : Kd.C k37 w A0 l0.length l0) (hc0 : l0.length ≤ c0) (hr1 : Kd.C k46 w A1 l1.length l1) (hc1 : l1.length ≤ c1) (hT : Tryd.TabOk w) :
    Calls Tryd.prog 7 #[.slice A0 l0.length c0, .slice A1 l1.length c1, .int .i64 kind] w fun e w' => e = .returned (.bool true) ∧ Below w.heap.size w w' := by
  obtain ⟨b, hf, hb⟩ := few_some l0 (Kd.C_max hr0)
  cases b with
  | false => exact law_Tools_few A0 c0 l0 A1 c1 l1 kind w hr0 hc0 hf hT
  | true =>
    by_cases hm : l1.length ≤ 20
    · exact law_Tools_main A0 c0 l0 A1 c1 l1 kind w hr0 hc0 hr1 hc1 hf (hb rfl).1 hm hT
    · exact law_Tools_long A0 c0 l0 A1 c1 l1 kind w hr0 hc0 hf (by omega) hT
end Go.Proofs.YtlhfafklpchihaaDoor.MAll

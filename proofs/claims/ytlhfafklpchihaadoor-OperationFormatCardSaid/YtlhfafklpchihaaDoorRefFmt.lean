/- The reference's Format returns the same lines of operations as the program's; the law OperationFormat returns true at whatever operations. -/
import Derived.Test.YtlhfafklpchihaaDoorLawWalks
import Derived.Test.YtlhfafklpchihaaDoorShelf
import Derived.Lib.Hide
import Derived.Deep.RegionHeld3
import Derived.LoopTactic
import Derived.Laws.Concat
import Derived.Lib.ItoaLen
namespace Go.Proofs.YtlhfafklpchihaaDoor.MAll
open Go.RowKit Go.Proofs.YtlhfafklpchihaaDoorW.PrintWords Go.Proofs.YtlhfafklpchihaaDoorW.PrintLast Go.Proofs.YtlhfafklpchihaaDoorW.PrintMore
open Go.Proofs.Tryd (TabOk)
set_option linter.unusedVariables false
set_option linter.unusedSimpArgs false
theorem add_big (a b : ByteArray) (W : World) (h : a.size + b.size ≤ 9223372036854775807) : (Op.stringOp .add a b).run Tryd.prog W = .ok (.string (a ++ b)) W := run_string_add_sum W a b h
theorem str_eq {X : ByteArray} {l : List UInt8} (h : X.data.toList = l) : X = ⟨l.toArray⟩ := by cases X; simp at h; subst h; simp
theorem size_of {X : ByteArray} {l : List UInt8} (h : X.data.toList = l) : X.size = l.length := by rw [← h, Array.length_toList]; rfl
set_option maxHeartbeats 4000000 in
set_option maxRecDepth 100000 in
theorem swarfref28_Format.walk (A0 : Option Addr) (c0 : Nat) (l0 : List S37) (w : World) (hr0 : Kd.C k37 w A0 l0.length l0) (hc0 : l0.length ≤ c0) (hlen : (fmtOps l0).length ≤ 140737488355328) (hok : ∀ o ∈ l0, OkOp o) (hT : TabOk w) :
    Calls Tryd.prog 18 #[.slice A0 l0.length c0] w fun e w' => e = .returned (.string ⟨(fmtOps l0).toArray⟩) ∧ Below w.heap.size w w' := by
  have HL := Lib.hid hlen; clear hlen
  have HK := Lib.hid hok; clear hok
  have HR0 := Aside0.mk hr0
  have HC0 := Aside0.mk hc0
  clear hr0 hc0
  have M0 := Kd.C_max HR0.out
  go_enter Tryd.func18, Tryd.ntmps18
  go_wp2
  go_loopw [3, 4] (fun v3 v4 wr => ∃ (k : Nat) (X : ByteArray), k ≤ l0.length ∧ v3 = .string X ∧ v4 = .int .i64 k ∧ Hid (X.data.toList = fmtOps (l0.take k)) ∧ Below w.heap.size w wr) (fun _ v4 _ => l0.length - (intOf v4).toNat)
  case atStart => exact ⟨0, ⟨#[]⟩, Nat.zero_le _, rfl, rfl, Lib.hid rfl, Below.refl _ _⟩
  case round =>
    obtain ⟨k, X, hk, rfl, rfl, HX, hb⟩ := hrel
    by_cases hlt : k < l0.length
    · have p1 : (0 : Int) ≤ (k : Int) := by omega
      have q1 : (k : Int) < (l0.length : Int) := by omega
      obtain ⟨ad, A3, c3, eA, hx0, hx1, hx2, hx3, hx4, hl3, hi3⟩ := at_T37 HR0.out k p1 q1
      cases eA
      have HL3 := Aside0.mk hl3
      have HI3 := Aside0.mk hi3
      clear hl3 hi3
      obtain ⟨o, ho⟩ : ∃ o : S37, o = rd_T37 l0 k := ⟨_, rfl⟩
      rw [← ho] at hx0 hx1 hx2 hx3 hx4 HL3 HI3
      simp only [Int.toNat_natCast] at hx0 hx1 hx2 hx3 hx4
      have y0 := pw_cell_below' hb hx0
      have y1 := pw_cell_below' hb hx1
      have y2 := pw_cell_below' hb hx2
      have y3 := pw_cell_below' hb hx3
      have y4 := pw_cell_below' hb hx4
      clear hx0 hx1 hx2 hx3 hx4
      have HO := Lib.hid ho; clear ho
      have HF := Lib.hid (HK.out o (by rw [HO.out]; exact rd_mem l0 k hlt))
      have HFT := Lib.hid (fmt_take l0 k hlt)
      have HLEN := Lib.hid (show (fmtOps (l0.take k)).length + (head o ++ nums_ o.f3 ++ [10]).length ≤ 140737488355328 from by
        have h1 := fmt_le l0 (k + 1); rw [HFT.out, ← HO.out, List.length_append] at h1; unfold line at h1; have := HL.out; omega)
      have LX : X.size ≤ 140737488355328 := by have := HLEN.out; rw [size_of HX.out]; omega
      have HBb := Lib.hid hb; clear hb
      obtain ⟨nm, hnm⟩ : ∃ nm, nm = knm o.f0 := ⟨_, rfl⟩
      have HN := Lib.hid hnm; clear hnm
      have HKF := Lib.hid (show swarfref28_KindName.f o.f0 = some nm by rw [HN.out]; exact kind_ref _)
      have LK : nm.size ≤ 6 := by rw [HN.out]; exact knm_size _
      have HQ : Hid (nmq o.f0 = if nm.toList.isEmpty then [63] else nm.data.toList) := Lib.hid (by unfold nmq; rw [← HN.out]; simp only [List.isEmpty_iff])
      go_upto_if 22 with (go_at_call 24; (with_reducible refine (swarfref28_KindName.calls _ nm _ HKF.out).mono ?_); rintro e w1 ⟨rfl, hd1⟩)
      go_cut [6] (fun v6 wc => ∃ s : ByteArray, v6 = .string s ∧ s.size ≤ 6 ∧ Hid (s.data.toList = nmq o.f0) ∧ wc = w1)
      case first =>
        clear y0 y1 y2 y3 y4
        go_wp2
        all_goals
          go_meet
        case rel => first | exact ⟨_, rfl, LK, Lib.hid (by rw [HQ.out, if_neg (by rw [‹nm.toList.isEmpty = false›]; decide)]), rfl⟩ | exact ⟨_, rfl, by decide, Lib.hid (by rw [HQ.out, if_pos ‹_›]), rfl⟩
        case rel => first | exact ⟨_, rfl, LK, Lib.hid (by rw [HQ.out, if_neg (by rw [‹nm.toList.isEmpty = false›]; decide)]), rfl⟩ | exact ⟨_, rfl, by decide, Lib.hid (by rw [HQ.out, if_pos ‹_›]), rfl⟩
      case rest =>
        clear LK
        obtain ⟨s, rfl, LS, HS, rfl⟩ := hcut
        have hb1 := hd1.below
        have B1 : wc.heap[wr.heap.size]? = some (ob o A3 c3) := (hb1.block _ (by simp)).trans (heap_alloc_new wr _)
        have HB1 := Lib.hid ((below_alloc (Below.refl wr.heap.size wr) _).trans (hb1.mono (by simp))); clear hb1 hd1
        have HG := Lib.hid (blk_lt B1)
        have HBw := Lib.hid (HBb.out.trans (HB1.out.mono HBb.out.size))
        have HT1 := Lib.hid (hT.below HBw.out)
        have L1 := itoa_sz HF.out.2.1
        have L2 := itoa_sz HF.out.2.2.1
        have L4 := itoa_sz HF.out.2.2.2.1
        have KF : (⟨#[32, 102, 101, 97, 116, 117, 114, 101, 32]⟩ : ByteArray).size = 9 := rfl
        have KT : (⟨#[32, 116, 111, 111, 108, 32]⟩ : ByteArray).size = 6 := rfl
        have KL : (⟨#[32, 108, 101, 97, 118, 101, 32]⟩ : ByteArray).size = 7 := rfl
        have KD : (⟨#[32, 100, 101, 112, 116, 104, 115]⟩ : ByteArray).size = 7 := rfl
        have E0 := fun W => add_big X s W (by omega)
        have E1 := fun W => add_big (X ++ s) ⟨#[32, 102, 101, 97, 116, 117, 114, 101, 32]⟩ W (by simp only [ByteArray.size_append, KF, KT, KL, KD]; omega)
        have E2 := fun W => add_big (X ++ s ++ ⟨#[32, 102, 101, 97, 116, 117, 114, 101, 32]⟩) ⟨(Lib.itoa o.f1).toArray⟩ W (by simp only [ByteArray.size_append, KF, KT, KL, KD]; omega)
        have E3 := fun W => add_big (X ++ s ++ ⟨#[32, 102, 101, 97, 116, 117, 114, 101, 32]⟩ ++ ⟨(Lib.itoa o.f1).toArray⟩) ⟨#[32, 116, 111, 111, 108, 32]⟩ W (by simp only [ByteArray.size_append, KF, KT, KL, KD]; omega)
        have E4 := fun W => add_big (X ++ s ++ ⟨#[32, 102, 101, 97, 116, 117, 114, 101, 32]⟩ ++ ⟨(Lib.itoa o.f1).toArray⟩ ++ ⟨#[32, 116, 111, 111, 108, 32]⟩) ⟨(Lib.itoa o.f2).toArray⟩ W (by simp only [ByteArray.size_append, KF, KT, KL, KD]; omega)
        have E5 := fun W => add_big (X ++ s ++ ⟨#[32, 102, 101, 97, 116, 117, 114, 101, 32]⟩ ++ ⟨(Lib.itoa o.f1).toArray⟩ ++ ⟨#[32, 116, 111, 111, 108, 32]⟩ ++ ⟨(Lib.itoa o.f2).toArray⟩) ⟨#[32, 108, 101, 97, 118, 101, 32]⟩ W (by simp only [ByteArray.size_append, KF, KT, KL, KD]; omega)
        have E6 := fun W => add_big (X ++ s ++ ⟨#[32, 102, 101, 97, 116, 117, 114, 101, 32]⟩ ++ ⟨(Lib.itoa o.f1).toArray⟩ ++ ⟨#[32, 116, 111, 111, 108, 32]⟩ ++ ⟨(Lib.itoa o.f2).toArray⟩ ++ ⟨#[32, 108, 101, 97, 118, 101, 32]⟩) ⟨(Lib.itoa o.f4).toArray⟩ W (by simp only [ByteArray.size_append, KF, KT, KL, KD]; omega)
        have E7 := fun W => add_big (X ++ s ++ ⟨#[32, 102, 101, 97, 116, 117, 114, 101, 32]⟩ ++ ⟨(Lib.itoa o.f1).toArray⟩ ++ ⟨#[32, 116, 111, 111, 108, 32]⟩ ++ ⟨(Lib.itoa o.f2).toArray⟩ ++ ⟨#[32, 108, 101, 97, 118, 101, 32]⟩ ++ ⟨(Lib.itoa o.f4).toArray⟩) ⟨#[32, 100, 101, 112, 116, 104, 115]⟩ W (by simp only [ByteArray.size_append, KF, KT, KL, KD]; omega)
        clear KF KT KL KD L1 L2 L4 LS
        have HY := Lib.hid (show (X ++ s ++ ⟨#[32, 102, 101, 97, 116, 117, 114, 101, 32]⟩ ++ ⟨(Lib.itoa o.f1).toArray⟩ ++ ⟨#[32, 116, 111, 111, 108, 32]⟩ ++ ⟨(Lib.itoa o.f2).toArray⟩ ++ ⟨#[32, 108, 101, 97, 118, 101, 32]⟩ ++ ⟨(Lib.itoa o.f4).toArray⟩ ++ ⟨#[32, 100, 101, 112, 116, 104, 115]⟩).data.toList = fmtOps (l0.take k) ++ head o from by
          rw [← HX.out]; unfold head headN; rw [← HS.out]; simp)
        have hd2 : Below wc.heap.size wc wc.drew := below_drew (Below.refl _ _)
        obtain ⟨c1, c2, c4, _⟩ := cells_of B1
        go_wp2_with fail
        go_region_held3 (fun w' => w'.cell? ⟨wr.heap.size, 1, none⟩ = some (.int .i64 o.f1) ∧ w'.cell? ⟨wr.heap.size, 2, none⟩ = some (.int .i64 o.f2) ∧ w'.cell? ⟨wr.heap.size, 4, none⟩ = some (.int .i64 o.f4) ∧ w'.heap[wr.heap.size]? = some (ob o A3 c3))
          (first
            | exact cells_of ((Below.block (by assumption) _ HG.out).trans B1))
          (first
            | (go_at_call 28; go_split_ands; refine (Tryd.Itoa_any _ (by first | exact HF.out.2.1.1 | exact HF.out.2.2.1.1) (by first | exact HF.out.2.1.2 | exact HF.out.2.2.1.2) _ (HT1.out.below (by assumption))).mono ?_; rintro e w' ⟨rfl, hb'⟩; have hb'' := below_then (B := wc.heap.size) (w := wc) (by assumption) (Below.size (by assumption)) hb'; clear hb')
            | (go_at_call 29; go_split_ands; refine (Tryd.FormatInt_any _ HF.out.2.2.2.1.1 HF.out.2.2.2.1.2 _ (HT1.out.below (by assumption))).mono ?_; rintro e w' ⟨rfl, hb'⟩; have hbz := below_then (B := wc.heap.size) (w := wc) (by assumption) (Below.size (by assumption)) hb'; clear hb'))
        clear E0 E1 E2 E3 E4 E5 E6 E7 c1 c2 c4 hd2
        have HB2 := Lib.hid (HBw.out.trans (hbz.mono HBw.out.size))
        have B2 := (Below.block hbz _ HG.out).trans B1
        have HG2 := Lib.hid (blk_lt B2)
        have HB2k := Lib.hid B2; clear B2
        go_wp2_with fail
        obtain ⟨wo, rfl⟩ : ∃ wo : World, wo = wr := ⟨_, rfl⟩
        go_loopw [3, 7] (fun v3 v7 wq => ∃ (j : Nat) (Y : ByteArray), j ≤ o.f3.length ∧ v3 = .string Y ∧ v7 = .int .i64 j ∧ Hid (Y.data.toList = fmtOps (l0.take k) ++ head o ++ nums_ (o.f3.take j)) ∧ Below w'.heap.size w' wq) (fun _ v7 _ => o.f3.length - (intOf v7).toNat)
        case atStart => exact ⟨0, _, Nat.zero_le _, rfl, rfl, Lib.hid (by rw [HY.out]; simp [nums_]), Below.refl _ _⟩
        case round =>
          obtain ⟨j, Y, hj, rfl, rfl, HYq, hwq⟩ := hrel
          have q3 : wr.cell? ⟨wo.heap.size, 3, none⟩ = some (.slice A3 o.f3.length c3) := by rw [blk_cell (show wr.heap[wo.heap.size]? = some (ob o A3 c3) from (hwq.block _ HG2.out).trans HB2k.out)]; rfl
          have M3 := Kd.C_max HI3.out
          by_cases hjt : j < o.f3.length
          · have p2 : (0 : Int) ≤ (j : Int) := by omega
            have q2 : (j : Int) < (o.f3.length : Int) := by omega
            obtain ⟨ad3, eA3, hx3⟩ := Kd.at_int HI3.out j p2 q2
            cases eA3
            simp only [Int.toNat_natCast] at hx3
            have hwq' := HB2.out.trans (hwq.mono HB2.out.size)
            have z3 := pw_cell_below' hwq' hx3
            clear hx3
            have HD := Lib.hid (HF.out.2.2.2.2 _ (rdi_mem o.f3 j hjt))
            have HNT := Lib.hid (nums_take o.f3 j hjt)
            have LY : Y.size ≤ 140737488355328 := by
              have h1 := nums_le o.f3 j; have := HLEN.out; rw [size_of HYq.out]; simp only [List.length_append] at *; omega
            have HTq := Lib.hid (hT.below hwq')
            clear hwq'
            have HWq := Lib.hid hwq; clear hwq
            have LD := itoa_sz HD.out
            have K1 : (⟨#[32]⟩ : ByteArray).size = 1 := rfl
            have E1 := fun W => add_big Y ⟨#[32]⟩ W (by omega)
            have E2 := fun W => add_big (Y ++ ⟨#[32]⟩) ⟨(Lib.itoa (rd o.f3 j)).toArray⟩ W (by rw [ByteArray.size_append, K1]; omega)
            clear K1 LD LY
            go_wp2_with (first
              | (go_at_call 29; refine (Tryd.FormatInt_any _ HD.out.1 HD.out.2 _ HTq.out).mono ?_; rintro e w3 ⟨rfl, hb3⟩))
            go_roundw
            case rel => exact ⟨j + 1, _, by omega, rfl, by go_num, Lib.hid (by rw [HNT.out, ← List.append_assoc, ← HYq.out]; simp), HWq.out.trans (hb3.mono HWq.out.size)⟩
            case measure => simp [intOf]; omega
          · obtain rfl : j = o.f3.length := by omega
            have LY : Y.size ≤ 140737488355328 := by
              have := HLEN.out; rw [size_of HYq.out]; simp only [List.length_append, List.take_length] at *; omega
            have HWq := Lib.hid hwq; clear hwq
            have E1 := fun W => add_big Y ⟨#[10]⟩ W (by rw [show (⟨#[10]⟩ : ByteArray).size = 1 from rfl]; omega)
            clear LY
            go_wp2
            go_roundw
            case rel => exact ⟨k + 1, _, by omega, rfl, by go_num, Lib.hid (by rw [HFT.out, ← HO.out]; unfold line; rw [← List.append_assoc, ← List.append_assoc]; simp [HYq.out]), HB2.out.trans (HWq.out.mono HB2.out.size)⟩
            case measure => simp [intOf]; omega
    · obtain rfl : k = l0.length := by omega
      have HBb := Lib.hid hb; clear hb
      obtain rfl : X = ⟨(fmtOps l0).toArray⟩ := str_eq (HX.out.trans (by rw [List.take_length]))
      go_wp2
      go_ret
      exact ⟨rfl, HBb.out⟩
theorem nums_len (l : List Int) (h : ∀ d ∈ l, in64 d) : (nums_ l).length ≤ l.length * 22 := by
  induction l with
  | nil => simp [nums_]
  | cons a l ih =>
    have h1 := itoa_le (h a (List.mem_cons_self ..))
    have h2 := ih (fun d hd => h d (List.mem_cons_of_mem _ hd))
    unfold nums_ at h2 ⊢
    simp only [List.flatMap_cons, List.length_append, List.length_cons] at *
    omega
theorem nmq_len (k : Int) : (nmq k).length ≤ 6 := by
  unfold nmq
  have h := knm_size k
  split
  · simp
  · rw [Array.length_toList]; exact h
theorem fmt_len (l : List S37) (h : ∀ o ∈ l, OkOp o) (hd : ∀ o ∈ l, o.f3.length ≤ 20) : (fmtOps l).length ≤ l.length * 600 := by
  induction l with
  | nil => simp [fmtOps]
  | cons o l ih =>
    have h0 := h o (List.mem_cons_self ..)
    have h1 := itoa_le h0.2.1
    have h2 := itoa_le h0.2.2.1
    have h4 := itoa_le h0.2.2.2.1
    have h5 := nums_len o.f3 h0.2.2.2.2
    have h6 := hd o (List.mem_cons_self ..)
    have h7 := nmq_len o.f0
    have h8 := ih (fun d hm => h d (List.mem_cons_of_mem _ hm)) (fun d hm => hd d (List.mem_cons_of_mem _ hm))
    unfold fmtOps line head headN at h8 ⊢
    simp only [List.flatMap_cons, List.length_append, List.length_cons, List.length_nil] at *
    omega
theorem law_Format_few (A0 : Option Addr) (c0 : Nat) (l0 : List S37) (w : World) (hr0 : Kd.C k37 w A0 l0.length l0) (hc0 : l0.length ≤ c0) (hf : swarfref28_Few.f (l0.length + 1) l0 20 = some false) (hT : TabOk w) :
    Calls Tryd.prog 6 #[.slice A0 l0.length c0] w fun e w' => e = .returned (.bool true) ∧ Below w.heap.size w w' := by
  have HR := Lib.hid hr0; clear hr0
  have HC := Lib.hid hc0; clear hc0
  have HF := Lib.hid hf; clear hf
  go_enter Tryd.func6, Tryd.ntmps6
  go_wp2_with (first
    | (go_at_call 8; (with_reducible refine (swarflaw28_awake.calls 3000 true _ (awake_true 3000 (by decide)) hT).mono ?_); rintro e w1 ⟨rfl, hb1⟩)
    | (go_at_call 12; (with_reducible refine (swarfref28_Few.calls _ _ _ l0 20 _ _ (Kd.C_below HR.out hb1) HC.out HF.out).mono ?_); rintro e w2 ⟨rfl, hd2⟩))
  go_ret
  exact ⟨rfl, bel_drawn hb1 hd2⟩
theorem law_Format_many (A0 : Option Addr) (c0 : Nat) (l0 : List S37) (w : World) (hr0 : Kd.C k37 w A0 l0.length l0) (hc0 : l0.length ≤ c0) (hf : swarfref28_Few.f (l0.length + 1) l0 20 = some true) (hl : l0.length ≤ 20) (hlen : (fmtOps l0).length ≤ 140737488355328) (hok : ∀ o ∈ l0, OkOp o) (hT : TabOk w) :
    Calls Tryd.prog 6 #[.slice A0 l0.length c0] w fun e w' => e = .returned (.bool true) ∧ Below w.heap.size w w' := by
  have HR := Lib.hid hr0; clear hr0
  have HC := Lib.hid hc0; clear hc0
  have HF := Lib.hid hf; clear hf
  have HL := Lib.hid hlen; clear hlen
  have HK := Lib.hid hok; clear hok
  go_enter Tryd.func6, Tryd.ntmps6
  go_wp2_with (first
    | (go_at_call 8; (with_reducible refine (swarflaw28_awake.calls 3000 true _ (awake_true 3000 (by decide)) hT).mono ?_); rintro e w1 ⟨rfl, hb1⟩)
    | (go_at_call 12; (with_reducible refine (swarfref28_Few.calls _ _ _ l0 20 _ _ (Kd.C_below HR.out hb1) HC.out HF.out).mono ?_); rintro e w2 ⟨rfl, hd2⟩; have hb2 := bel_drawn hb1 hd2; clear hd2)
    | (go_at_call 15; (with_reducible refine (slices_Clone_Operation.calls _ _ l0 _ (Kd.C_below HR.out hb2) HC.out (by omega)).mono ?_); rintro e w3 ⟨A1, c1, rfl, hc1, hC1, hb3⟩; have HC1 := Lib.hid hC1; clear hC1; have hb3' := below_then hb2 hb2.size hb3)
    | (go_at_call 17; (with_reducible refine (operation_Format.walk _ _ l0 _ HC1.out hc1 HL.out HK.out (hT.below hb3')).mono ?_); rintro e w4 ⟨rfl, hb4⟩; have hb4' := below_then hb3' hb3'.size hb4)
    | (go_at_call 18; (with_reducible refine (swarfref28_Format.walk _ _ l0 _ (Kd.C_below HR.out hb4') HC.out HL.out HK.out (hT.below hb4')).mono ?_); rintro e w5 ⟨rfl, hb5⟩; have hb5' := below_then hb4' hb4'.size hb5))
  go_ret
  exact ⟨rfl, hb5'⟩
theorem law_Format (A0 : Option Addr) (c0 : Nat) (l0 : List S37) (w : World) (hr0 : Kd.C k37 w A0 l0.length l0) (hc0 : l0.length ≤ c0) (hok : ∀ o ∈ l0, OkOp o) (hT : TabOk w) :
    Calls Tryd.prog 6 #[.slice A0 l0.length c0] w fun e w' => e = .returned (.bool true) ∧ Below w.heap.size w w' := by
  obtain ⟨b, hf, hb⟩ := few_some l0 (Kd.C_max hr0)
  cases b with
  | false => exact law_Format_few A0 c0 l0 w hr0 hc0 hf hT
  | true =>
    obtain ⟨hl, hd⟩ := hb rfl
    have h1 := fmt_len l0 hok (fun o ho => by
      obtain ⟨j, hj⟩ := List.mem_iff_getElem?.1 ho
      have hjl := (List.getElem?_eq_some_iff.1 hj).1
      have h2 := hd j hjl
      unfold rd_T37 at h2
      rw [Int.toNat_natCast, List.getD_eq_getElem?_getD, hj] at h2
      exact h2)
    exact law_Format_many A0 c0 l0 w hr0 hc0 hf hl (by omega) hok hT
end Go.Proofs.YtlhfafklpchihaaDoor.MAll

/- Needs and Tools of the program and of the reference compute the same lists. -/
import Derived.Test.YtlhfafklpchihaaDoorPassesPure
namespace Go.Proofs.YtlhfafklpchihaaDoor.MAll
open Go.RowKit Go.Proofs.YtlhfafklpchihaaDoorW.PrintWords Go.Proofs.YtlhfafklpchihaaDoorW.PrintLast Go.Proofs.YtlhfafklpchihaaDoorW.PrintMore
set_option linter.unusedVariables false
set_option linter.unusedSimpArgs false
/-- Must the operation a come before b? -/
def befB (a b : S37) : Bool := if b.f0 = 5 then a.f0 != 5 else if a.f1 = b.f1 then (if a.f0 = 1 then (if b.f0 = 2 then true else b.f0 == 4) else false) else false
theorem ref_before (a b : S37) : swarfref28_before.f a.f0 a.f1 a.f2 a.f3 a.f4 b.f0 b.f1 b.f2 b.f3 b.f4 = some (befB a b) := by
  unfold swarfref28_before.f befB
  repeat' split
  all_goals rfl
theorem prog_step (k : Nat) (l : List S37) (acc : List S33) (i j : Int) (h0 : 0 ≤ j) (hj : j < l.length) (hl : l.length ≤ 20) (ha : acc.length < 8796093022208) :
    operation_Needs.l1 (k + 1) l acc i l l.length i l l.length j (rd_T37 l i).f0 (rd_T37 l i).f1 (rd_T37 l i).f2 (rd_T37 l i).f3 (rd_T37 l i).f4 =
      operation_Needs.l1 k l (acc ++ if befB (rd_T37 l i) (rd_T37 l j) then [⟨i, j⟩] else []) i l l.length i l l.length (j + 1) (rd_T37 l i).f0 (rd_T37 l i).f1 (rd_T37 l i).f2 (rd_T37 l i).f3 (rd_T37 l i).f4 := by
  conv => lhs; simp only [operation_Needs.l1]
  rw [if_pos hj, if_pos h0, if_pos hj, w64 (n := j + 1) (by omega) (by omega)]
  simp only [if_pos ha]
  unfold befB
  generalize rd_T37 l i = a
  generalize rd_T37 l j = b
  by_cases h1 : b.f0 = 5
  · by_cases h2 : a.f0 = 5
    · by_cases h3 : a.f1 = b.f1 <;> simp [h1, h2, h3]
    · by_cases h3 : a.f1 = b.f1 <;> by_cases h4 : a.f0 = 1 <;> simp [h1, h2, h3, h4]
  · by_cases h3 : a.f1 = b.f1
    · by_cases h4 : a.f0 = 1
      · by_cases h5 : b.f0 = 2
        · simp [h1, h3, h4, h5]
        · by_cases h6 : b.f0 = 4 <;> simp [h1, h3, h4, h5, h6]
      · simp [h1, h3, h4]
    · simp [h1, h3]
theorem ref_step (k : Nat) (l : List S37) (acc : List S33) (i j : Int) (hi0 : 0 ≤ i) (hi : i < l.length) (h0 : 0 ≤ j) (hj : j < l.length) (hl : l.length ≤ 20) (ha : acc.length < 8796093022208) :
    swarfref28_Needs.l1 (k + 1) l acc i j = swarfref28_Needs.l1 k l (acc ++ if befB (rd_T37 l i) (rd_T37 l j) then [⟨i, j⟩] else []) i (j + 1) := by
  conv => lhs; simp only [swarfref28_Needs.l1]
  rw [if_pos hj, if_pos hi0, if_pos hi, if_pos h0, ref_before, w64 (n := j + 1) (by omega) (by omega)]
  simp only [Option.bind_some]
  split <;> simp_all
theorem needs_loops (l : List S37) (hl : l.length ≤ 20) (d : Nat) : ∀ (k : Nat) (i j : Int) (acc : List S33), 0 ≤ i → i < l.length → 0 ≤ j → j ≤ l.length → (l.length - i) * 30 - j = d → d < k → acc.length + d ≤ 1000 →
    ∃ r, operation_Needs.l1 k l acc i l l.length i l l.length j (rd_T37 l i).f0 (rd_T37 l i).f1 (rd_T37 l i).f2 (rd_T37 l i).f3 (rd_T37 l i).f4 = some r ∧ swarfref28_Needs.l1 k l acc i j = some r ∧ r.length ≤ 1000 := by
  induction d using Nat.strongRecOn with
  | _ d ih =>
    intro k i j acc hi0 hi h0 hj hd hk ha
    obtain ⟨k, rfl⟩ : ∃ m, k = m + 1 := ⟨k - 1, by omega⟩
    by_cases hlt : j < l.length
    · rw [prog_step k l acc i j h0 hlt hl (by omega), ref_step k l acc i j hi0 hi h0 hlt hl (by omega)]
      refine ih (d - 1) (by omega) k i (j + 1) _ hi0 hi (by omega) (by omega) (by omega) (by omega) ?_
      split <;> simp <;> omega
    · obtain ⟨k, rfl⟩ : ∃ m, k = m + 1 := ⟨k - 1, by omega⟩
      simp only [operation_Needs.l1, swarfref28_Needs.l1]
      rw [if_neg hlt, if_neg hlt, w64 (n := i + 1) (by omega) (by omega)]
      simp only [operation_Needs.l0, swarfref28_Needs.l0]
      by_cases hn : i + 1 < l.length
      · rw [if_pos hn, if_pos hn, if_pos (by omega), if_pos (by omega)]
        exact ih ((l.length - (i + 1)) * 30).toNat (by omega) k (i + 1) 0 acc (by omega) (by omega) (by omega) (by omega) (by omega) (by omega) (by omega)
      · rw [if_neg hn, if_neg hn]
        exact ⟨acc, rfl, rfl, by omega⟩
theorem needs_eq (l : List S37) (hl : l.length ≤ 20) : ∃ r, operation_Needs.f 2000 l = some r ∧ swarfref28_Needs.f 2000 l = some r ∧ r.length ≤ 1000 := by
  unfold operation_Needs.f swarfref28_Needs.f
  rw [show (2000 : Nat) = 1999 + 1 from rfl]
  simp only [operation_Needs.l0, swarfref28_Needs.l0]
  by_cases h : (0 : Int) < l.length
  · rw [if_pos h, if_pos h, if_pos (by omega), if_pos h]
    exact needs_loops l hl (l.length * 30) 1999 0 0 [] (by omega) h (by omega) (by omega) (by omega) (by omega) (by simp; omega)
  · rw [if_neg h, if_neg h]; exact ⟨[], rfl, rfl, by simp⟩
theorem eq2_loop (l : List S33) (hl : l.length ≤ 1000000) (d : Nat) : ∀ (k : Nat) (i : Int), 0 ≤ i → (l.length : Int) - i = d → d < k → slices_Equal_2_int_2_int.l0 k l l (l.length : Int) i = some true := by
  induction d with
  | zero =>
    intro k i h0 hd hk
    obtain ⟨k, rfl⟩ : ∃ m, k = m + 1 := ⟨k - 1, by omega⟩
    simp only [slices_Equal_2_int_2_int.l0]; rw [if_neg (by omega)]
  | succ d ih =>
    intro k i h0 hd hk
    obtain ⟨k, rfl⟩ : ∃ m, k = m + 1 := ⟨k - 1, by omega⟩
    simp only [slices_Equal_2_int_2_int.l0]; rw [if_pos (by omega), if_pos h0, if_pos (by omega), if_pos (by omega), if_neg (by simp), w64 (by omega) (by omega)]
    exact ih k (i + 1) (by omega) (by omega) (by omega)
theorem eq2_self (l : List S33) (hl : l.length ≤ 1000000) (k : Nat) (hk : l.length < k) : slices_Equal_2_int_2_int.f k l l = some true := by
  unfold slices_Equal_2_int_2_int.f; rw [if_pos rfl]; exact eq2_loop l hl l.length k 0 (by omega) (by omega) hk
theorem eqi_loop (l : List Int) (hl : l.length ≤ 1000000) (d : Nat) : ∀ (k : Nat) (i : Int), 0 ≤ i → (l.length : Int) - i = d → d < k → slices_Equal_int_int.l0 k l l (l.length : Int) i = some true := by
  induction d with
  | zero =>
    intro k i h0 hd hk
    obtain ⟨k, rfl⟩ : ∃ m, k = m + 1 := ⟨k - 1, by omega⟩
    simp only [slices_Equal_int_int.l0]; rw [if_neg (by omega)]
  | succ d ih =>
    intro k i h0 hd hk
    obtain ⟨k, rfl⟩ : ∃ m, k = m + 1 := ⟨k - 1, by omega⟩
    simp only [slices_Equal_int_int.l0]; rw [if_pos (by omega), if_pos h0, if_pos (by omega), if_pos (by omega), if_true, w64 (by omega) (by omega)]
    exact ih k (i + 1) (by omega) (by omega) (by omega)
theorem eqi_self (l : List Int) (hl : l.length ≤ 1000000) (k : Nat) (hk : l.length < k) : slices_Equal_int_int.f k l l = some true := by
  unfold slices_Equal_int_int.f; rw [if_pos rfl]; exact eqi_loop l hl l.length k 0 (by omega) (by omega) hk
/-- Few answers, and 'yes' only for short lists of operations with few depths. -/
theorem few_loop (l : List S37) (hm : l.length ≤ 9223372036854775807) (d : Nat) : ∀ (k : Nat) (i : Int), 0 ≤ i → (l.length : Int) - i = d → d < k → (∀ j : Nat, (j : Int) < i → (rd_T37 l j).f3.length ≤ 20) →
    ∃ b, swarfref28_Few.l0 k l 20 i = some b ∧ (b = true → l.length ≤ 20 ∧ ∀ j : Nat, j < l.length → (rd_T37 l j).f3.length ≤ 20) := by
  induction d with
  | zero =>
    intro k i h0 hd hk hj
    obtain ⟨k, rfl⟩ : ∃ m, k = m + 1 := ⟨k - 1, by omega⟩
    simp only [swarfref28_Few.l0]; rw [if_neg (by omega)]
    exact ⟨_, rfl, fun h => ⟨by have := of_decide_eq_true h; omega, fun j hjl => hj j (by omega)⟩⟩
  | succ d ih =>
    intro k i h0 hd hk hj
    obtain ⟨k, rfl⟩ : ∃ m, k = m + 1 := ⟨k - 1, by omega⟩
    simp only [swarfref28_Few.l0]; rw [if_pos (by omega), if_pos h0, w64 (by omega) (by omega)]
    by_cases hc : ((rd_T37 l i).f3.length : Int) > 20
    · rw [if_pos hc]; exact ⟨false, rfl, fun h => by cases h⟩
    · rw [if_neg hc]
      refine ih k (i + 1) (by omega) (by omega) (by omega) (fun j hji => ?_)
      by_cases e : (j : Int) = i
      · rw [e]; omega
      · exact hj j (by omega)
theorem few_some (l : List S37) (hm : l.length ≤ 9223372036854775807) : ∃ b, swarfref28_Few.f (l.length + 1) l 20 = some b ∧ (b = true → l.length ≤ 20 ∧ ∀ j : Nat, j < l.length → (rd_T37 l j).f3.length ≤ 20) :=
  few_loop l hm l.length (l.length + 1) 0 (by omega) (by omega) (by omega) (fun j hj => by omega)
theorem tools_loops (l : List S37) (m : List S46) (hl : l.length ≤ 20) (hm : m.length ≤ 20) (d : Nat) : ∀ (k : Nat) (i : Int) (xs acc : List Int), 0 ≤ i → (l.length : Int) - i = d → d < k → xs.length = l.length → acc = xs.take i.toNat →
    ∃ r, operation_Tools.l0 k m xs l l.length i = some r ∧ swarfref28_Tools.l0 k l m acc i = some r ∧ r.1.length ≤ 20 := by
  induction d with
  | zero =>
    intro k i xs acc h0 hd hk hx ha
    obtain ⟨k, rfl⟩ : ∃ m, k = m + 1 := ⟨k - 1, by omega⟩
    simp only [operation_Tools.l0, swarfref28_Tools.l0]; rw [if_neg (by omega), if_neg (by omega), ha, List.take_of_length_le (by omega)]
    exact ⟨_, rfl, rfl, by simp only; omega⟩
  | succ d ih =>
    intro k i xs acc h0 hd hk hx ha
    obtain ⟨k, rfl⟩ : ∃ m, k = m + 1 := ⟨k - 1, by omega⟩
    have hal : acc.length < 17592186044416 := by rw [ha, List.length_take]; omega
    simp only [operation_Tools.l0, swarfref28_Tools.l0]; simp only [if_pos (show i < (l.length : Int) by omega), if_pos h0]; rw [w64 (n := i + 1) (by omega) (by omega)]
    by_cases h1 : (rd_T37 l i).f2 < 0
    · simp only [if_pos h1]; exact ⟨_, rfl, rfl, by simp⟩
    · simp only [if_neg h1]
      by_cases h2 : (rd_T37 l i).f2 ≥ m.length
      · simp only [if_pos h2]; exact ⟨_, rfl, rfl, by simp⟩
      · simp only [if_neg h2, if_pos (show 0 ≤ (rd_T37 l i).f2 by omega), if_pos (show (rd_T37 l i).f2 < (m.length : Int) by omega), if_pos (show i < (xs.length : Int) by omega), if_pos hal]
        refine ih k (i + 1) _ _ (by omega) (by omega) (by omega) (by rw [List.length_set]; exact hx) ?_
        rw [show (i + 1).toNat = i.toNat + 1 by omega, List.take_add_one, List.getElem?_set_self (by omega), List.take_set_of_le (Nat.le_refl _), ← ha]
        rfl
theorem tools_eq (l : List S37) (m : List S46) (hl : l.length ≤ 20) (hm : m.length ≤ 20) : ∃ r, operation_Tools.f 50 l m = some r ∧ swarfref28_Tools.f 50 l m = some r ∧ r.1.length ≤ 20 := by
  unfold operation_Tools.f swarfref28_Tools.f
  rw [if_pos (by omega), if_pos (by omega)]
  exact tools_loops l m hl hm l.length 50 0 _ [] (by omega) (by omega) (by omega) (by simp) rfl
theorem kind_ref (k : Int) : swarfref28_KindName.f k = some (knm k) := by
  unfold swarfref28_KindName.f knm
  repeat' split
  all_goals rfl
end Go.Proofs.YtlhfafklpchihaaDoor.MAll

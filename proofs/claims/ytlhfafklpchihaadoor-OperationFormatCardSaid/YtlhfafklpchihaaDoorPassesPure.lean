/- The passes that the program and the reference compute are the same list, ascend by at most the step and end with the depth. -/
import Derived.Test.YtlhfafklpchihaaDoorMAllx
namespace Go.Proofs.YtlhfafklpchihaaDoor.MAll
open Go.RowKit Go.Proofs.YtlhfafklpchihaaDoorW.PrintWords Go.Proofs.YtlhfafklpchihaaDoorW.PrintLast Go.Proofs.YtlhfafklpchihaaDoorW.PrintMore
set_option linter.unusedVariables false
theorem w64 {n : Int} (h0 : -9223372036854775808 ≤ n) (h1 : n ≤ 9223372036854775807) : wrap64 n = n := by unfold wrap64; omega
theorem ediv_uniq {x c q : Int} (hc : 0 < c) (h1 : q * c ≤ x) (h2 : x < q * c + c) : x / c = q := by
  apply Int.le_antisymm
  · have : x / c < q + 1 := Int.ediv_lt_of_lt_mul hc (by rw [Int.add_mul]; omega)
    omega
  · exact Int.le_ediv_of_mul_le hc h1
theorem ediv_bd (x c : Int) (hc : 0 < c) : x / c * c ≤ x ∧ x < x / c * c + c := by
  have h := Int.mul_ediv_add_emod x c
  have h1 := Int.emod_nonneg x (by omega : c ≠ 0)
  have h2 := Int.emod_lt_of_pos x hc
  rw [Int.mul_comm] at h
  omega
/-- x / c, rounded up. -/
def cl (x c : Int) : Int := (x + c - 1) / c
theorem cl_bd (x c : Int) (hc : 0 < c) : x ≤ cl x c * c ∧ cl x c * c < x + c := by
  have := ediv_bd (x + c - 1) c hc
  unfold cl; omega
theorem cl_uniq {x c q : Int} (hc : 0 < c) (h1 : x ≤ q * c) (h2 : q * c < x + c) : cl x c = q := by unfold cl; exact ediv_uniq hc (by omega) (by omega)
theorem up_eq (a b : Int) (h0 : 0 ≤ a) (h1 : a ≤ 100000000000) (h2 : 1 ≤ b) (h3 : b ≤ 10000000) : operation_up.f a b = some (cl a b) := by
  unfold operation_up.f
  rw [if_neg (by omega), w64 (n := a + b) (by omega) (by omega), w64 (n := a + b - 1) (by omega) (by omega), Int.tdiv_eq_ediv_of_nonneg (by omega)]
  have hb := cl_bd a b (by omega)
  have h5 : 0 ≤ cl a b := by unfold cl; exact Int.ediv_nonneg (by omega) (by omega)
  have h6 : cl a b ≤ cl a b * b := by
    have := Int.mul_le_mul_of_nonneg_left h2 h5; omega
  rw [show (a + b - 1) / b = cl a b from rfl, w64 (by omega) (by omega)]
/-- The n passes down to D. -/
def passL (D n : Int) : List Int := (List.range n.toNat).map fun j : Nat => cl ((j + 1) * D) n
theorem passL_len (D n : Int) : (passL D n).length = n.toNat := by simp [passL]
theorem passL_get (D n : Int) (j : Nat) (h : j < n.toNat) : (passL D n)[j]? = some (cl ((j + 1) * D) n) := by
  unfold passL; rw [List.getElem?_map, List.getElem?_range h]; rfl
theorem prod_bd {i D : Int} (h0 : 0 ≤ i) (h1 : i ≤ 1001) (h2 : 1 ≤ D) (h3 : D ≤ 10000000) : i ≤ i * D ∧ i * D ≤ 10010000000 := by
  constructor
  · have := Int.mul_le_mul_of_nonneg_left h2 h0; omega
  · have a := Int.mul_le_mul_of_nonneg_left h3 h0
    omega
theorem prog_loop (D n : Int) (hD : 1 ≤ D) (hD2 : D ≤ 10000000) (hn : 1 ≤ n) (hn2 : n ≤ 1000) (d : Nat) : ∀ (k : Nat) (i : Int) (xs : List Int), 0 ≤ i → n - i = d → d < k → xs.length = n.toNat → (∀ j : Nat, (j : Int) < i → xs[j]? = (passL D n)[j]?) →
    operation_Passes.l0 k D n xs n i = some (passL D n, 0) := by
  induction d with
  | zero =>
    intro k i xs h0 hd hk hl hx
    obtain ⟨k, rfl⟩ : ∃ m, k = m + 1 := ⟨k - 1, by omega⟩
    simp only [operation_Passes.l0]; rw [if_neg (by omega)]
    have : xs = passL D n := by
      apply List.ext_getElem?
      intro j
      by_cases hj : (j : Int) < i
      · exact hx j hj
      · rw [List.getElem?_eq_none (by omega), List.getElem?_eq_none (by rw [passL_len]; omega)]
    rw [this]
  | succ d ih =>
    intro k i xs h0 hd hk hl hx
    obtain ⟨k, rfl⟩ : ∃ m, k = m + 1 := ⟨k - 1, by omega⟩
    have hp := prod_bd (i := i + 1) (D := D) (by omega) (by omega) hD hD2
    simp only [operation_Passes.l0]
    rw [if_pos (by omega), w64 (n := i + 1) (by omega) (by omega), w64 (n := (i + 1) * D) (by omega) (by omega), up_eq _ _ (by omega) (by omega) hn (by omega)]
    simp only [Option.bind_some]
    rw [if_pos h0, if_pos (by omega)]
    refine ih k (i + 1) _ (by omega) (by omega) (by omega) (by rw [List.length_set]; exact hl) ?_
    intro j hj
    rw [List.getElem?_set]
    by_cases e : i.toNat = j
    · rw [if_pos e, if_pos (by omega), passL_get _ _ _ (by omega)]
      rw [show ((j : Int) + 1) = i + 1 by omega]
    · rw [if_neg e]; exact hx j (by omega)
theorem ref_val (a n : Int) (ha : 0 ≤ a) (hn : 1 ≤ n) : (if a / n * n < a then a / n + 1 else a / n) = cl a n := by
  have hb := ediv_bd a n (by omega)
  split
  · exact (cl_uniq (by omega) (by rw [Int.add_mul]; omega) (by rw [Int.add_mul]; omega)).symm
  · exact (cl_uniq (by omega) (by omega) (by omega)).symm
theorem ref_loop (D n : Int) (hD : 1 ≤ D) (hD2 : D ≤ 10000000) (hn : 1 ≤ n) (hn2 : n ≤ 1000) (d : Nat) : ∀ (k : Nat) (i : Int) (xs : List Int), 1 ≤ i → n + 1 - i = d → d < k → xs = (passL D n).take (i - 1).toNat →
    swarfref28_Passes.l1 k D n xs i = some (passL D n, 0) := by
  induction d with
  | zero =>
    intro k i xs h0 hd hk hx
    obtain ⟨k, rfl⟩ : ∃ m, k = m + 1 := ⟨k - 1, by omega⟩
    simp only [swarfref28_Passes.l1]; rw [if_neg (by omega), hx, List.take_of_length_le (by rw [passL_len]; omega)]
  | succ d ih =>
    intro k i xs h0 hd hk hx
    obtain ⟨k, rfl⟩ : ∃ m, k = m + 1 := ⟨k - 1, by omega⟩
    have hp := prod_bd (i := i) (D := D) (by omega) (by omega) hD hD2
    have hb := ediv_bd (i * D) n (by omega)
    have hnn : 0 ≤ i * D / n := Int.ediv_nonneg (by omega) (by omega)
    have hle : i * D / n ≤ i * D / n * n := by have := Int.mul_le_mul_of_nonneg_left hn hnn; omega
    have hlen : xs.length < 17592186044416 := by rw [hx, List.length_take, passL_len]; omega
    have hv := ref_val (i * D) n (by omega) hn
    have hnext : ∀ v, v = cl (i * D) n → xs ++ [v] = (passL D n).take (i + 1 - 1).toNat := by
      intro v hv
      rw [show (i + 1 - 1).toNat = (i - 1).toNat + 1 by omega, List.take_add_one, passL_get _ _ _ (by omega), ← hx, hv]
      rw [show (((i - 1).toNat : Int) + 1) = i by omega]; rfl
    simp only [swarfref28_Passes.l1]
    rw [if_pos (by omega), if_neg (by omega), w64 (n := i * D) (by omega) (by omega), Int.tdiv_eq_ediv_of_nonneg (by omega), w64 (n := i * D / n) (by omega) (by omega), w64 (n := i * D / n * n) (by omega) (by omega), if_pos hlen, if_pos hlen,
      w64 (n := i + 1) (by omega) (by omega), w64 (n := i * D / n + 1) (by omega) (by omega)]
    split at hv
    · rename_i hc; rw [if_pos hc]; exact ih k (i + 1) _ (by omega) (by omega) (by omega) (hnext _ hv)
    · rename_i hc; rw [if_neg hc]; exact ih k (i + 1) _ (by omega) (by omega) (by omega) (hnext _ hv)
theorem ref_find (D S : Int) (hD : 1 ≤ D) (hD2 : D ≤ 10000000) (hS : 1 ≤ S) (hS2 : S ≤ 10000000) (d : Nat) : ∀ (k : Nat) (m : Int), 1 ≤ m → m ≤ cl D S → m ≤ 1000 → 1000 - m = d → d + 1002 < k →
    swarfref28_Passes.l0 k D S m = some (if cl D S > 1000 then ([], 3) else (passL D (cl D S), 0)) := by
  have hb := cl_bd D S (by omega)
  induction d with
  | zero =>
    intro k m h1 h2 h3 hd hk
    obtain ⟨k, rfl⟩ : ∃ m, k = m + 1 := ⟨k - 1, by omega⟩
    obtain rfl : m = 1000 := by omega
    simp only [swarfref28_Passes.l0]
    rw [w64 (n := 1000 * S) (by omega) (by omega), w64 (n := 1000 + 1) (by omega) (by omega)]
    by_cases hc : cl D S > 1000
    · have : 1001 * S ≤ cl D S * S := Int.mul_le_mul_of_nonneg_right (by omega) (by omega)
      rw [if_pos (by omega), if_pos (by omega), if_pos hc]
    · have e : cl D S = 1000 := by omega
      rw [e] at hb
      rw [if_neg (by omega), e, if_neg (by omega)]
      exact ref_loop D 1000 hD hD2 (by omega) (by omega) 1000 k 1 [] (by omega) (by omega) (by omega) rfl
  | succ d ih =>
    intro k m h1 h2 h3 hd hk
    obtain ⟨k, rfl⟩ : ∃ m, k = m + 1 := ⟨k - 1, by omega⟩
    have hm := prod_bd (i := m) (D := S) (by omega) (by omega) hS hS2
    simp only [swarfref28_Passes.l0]
    rw [w64 (n := m * S) (by omega) (by omega), w64 (n := m + 1) (by omega) (by omega)]
    by_cases e : m = cl D S
    · rw [← e] at hb
      rw [if_neg (by omega), ← e, if_neg (by omega)]
      exact ref_loop D m hD hD2 (by omega) (by omega) m.toNat k 1 [] (by omega) (by omega) (by omega) rfl
    · have : (m + 1) * S ≤ cl D S * S := Int.mul_le_mul_of_nonneg_right (by omega) (by omega)
      rw [Int.add_mul] at this
      rw [if_pos (by omega), if_neg (by omega)]
      exact ih k (m + 1) (by omega) (by omega) (by omega) (by omega) (by omega)
/-- What both return. -/
def passR (D S : Int) : List Int × Int := if D < 1 ∨ D > 10000000 ∨ S < 1 ∨ S > 10000000 then ([], 1) else if cl D S > 1000 then ([], 3) else (passL D (cl D S), 0)
theorem cl_pos {D S : Int} (hD : 1 ≤ D) (hS : 1 ≤ S) : 1 ≤ cl D S := by
  have hb := cl_bd D S (by omega)
  rcases Int.lt_or_le 0 (cl D S) with h | h
  · omega
  · have := Int.mul_le_mul_of_nonneg_right h (by omega : 0 ≤ S); omega
theorem prog_eq (D S : Int) (k : Nat) (hk : 3000 ≤ k) : operation_Passes.f k D S = some (passR D S) := by
  obtain ⟨k, rfl⟩ : ∃ m, k = m + 1 := ⟨k - 1, by omega⟩
  unfold operation_Passes.f passR
  by_cases h1 : D < 1
  · rw [if_pos h1, if_pos (.inl h1)]; rfl
  by_cases h2 : D > 10000000
  · rw [if_neg h1, if_pos h2, if_pos (.inr (.inl h2))]; rfl
  by_cases h3 : S < 1
  · rw [if_neg h1, if_neg h2, if_pos h3, if_pos (.inr (.inr (.inl h3)))]; rfl
  by_cases h4 : S > 10000000
  · rw [if_neg h1, if_neg h2, if_neg h3, if_pos (.inr (.inr (.inr h4))), decide_eq_true h4]; rfl
  rw [if_neg h1, if_neg h2, if_neg h3, if_neg (by omega), decide_eq_false h4]
  simp only [operation_Passes.j0]
  have hp := cl_pos (D := D) (S := S) (by omega) (by omega)
  rw [if_neg (by simp), up_eq _ _ (by omega) (by omega) (by omega) (by omega)]
  simp only [Option.bind_some]
  by_cases h5 : cl D S > 1000
  · rw [if_pos h5, if_pos h5]
  · rw [if_neg h5, if_neg h5, if_pos (by omega), if_pos (by omega), List.length_replicate, show (((cl D S).toNat : Nat) : Int) = cl D S by omega]
    exact prog_loop D (cl D S) (by omega) (by omega) hp (by omega) (cl D S).toNat k 0 _ (by omega) (by omega) (by omega) (by simp) (fun j hj => by omega)
theorem ref_eq (D S : Int) (k : Nat) (hk : 3000 ≤ k) : swarfref28_Passes.f k D S = some (passR D S) := by
  obtain ⟨k, rfl⟩ : ∃ m, k = m + 1 := ⟨k - 1, by omega⟩
  unfold swarfref28_Passes.f passR
  by_cases h1 : D < 1
  · rw [if_pos h1, if_pos (.inl h1)]; rfl
  by_cases h2 : D > 10000000
  · rw [if_neg h1, if_pos h2, if_pos (.inr (.inl h2))]; rfl
  by_cases h3 : S < 1
  · rw [if_neg h1, if_neg h2, if_pos h3, if_pos (.inr (.inr (.inl h3)))]; rfl
  by_cases h4 : S > 10000000
  · rw [if_neg h1, if_neg h2, if_neg h3, if_pos (.inr (.inr (.inr h4))), decide_eq_true h4]; rfl
  rw [if_neg h1, if_neg h2, if_neg h3, if_neg (by omega), decide_eq_false h4]
  simp only [swarfref28_Passes.j0]
  rw [if_neg (by simp)]
  exact ref_find D S (by omega) (by omega) (by omega) (by omega) 999 k 1 (by omega) (cl_pos (by omega) (by omega)) (by omega) (by omega) (by omega)
theorem eq_self_loop (l : List Int) (hl : l.length ≤ 1000000) (d : Nat) : ∀ (k : Nat) (i : Int), 0 ≤ i → (l.length : Int) - i = d → d < k → slices_Equal_int64_int64.l0 k l l (l.length : Int) i = some true := by
  induction d with
  | zero =>
    intro k i h0 hd hk
    obtain ⟨k, rfl⟩ : ∃ m, k = m + 1 := ⟨k - 1, by omega⟩
    simp only [slices_Equal_int64_int64.l0]; rw [if_neg (by omega)]
  | succ d ih =>
    intro k i h0 hd hk
    obtain ⟨k, rfl⟩ : ∃ m, k = m + 1 := ⟨k - 1, by omega⟩
    simp only [slices_Equal_int64_int64.l0]; rw [if_pos (by omega), if_pos h0, if_pos (by omega), if_pos (by omega), if_true, w64 (by omega) (by omega)]
    exact ih k (i + 1) (by omega) (by omega) (by omega)
theorem eq_self (l : List Int) (hl : l.length ≤ 1000000) (k : Nat) (hk : l.length < k) : slices_Equal_int64_int64.f k l l = some true := by
  unfold slices_Equal_int64_int64.f; rw [if_pos rfl]; exact eq_self_loop l hl l.length k 0 (by omega) (by omega) hk
theorem passR_len (D S : Int) : (passR D S).1.length ≤ 1000 := by
  unfold passR; split
  · simp
  · split
    · simp
    · simp only [passL_len]; omega
theorem awake_true (k : Nat) (hk : 3000 ≤ k) : swarflaw28_awake.f k = some true := by
  have h : swarflaw28_awake.f 60 = some true := by decide +kernel
  exact at_rounds (g := fun k => swarflaw28_awake.f k) (fun k => swarflaw28_awake.mono k) (by omega) h
theorem passes_true (D S : Int) : swarflaw28_OperationPasses.f 3000 D S = some true := by
  unfold swarflaw28_OperationPasses.f
  rw [awake_true 3000 (by omega), prog_eq D S 3000 (by omega), ref_eq D S 3000 (by omega)]
  simp only [Option.bind_some, if_true]
  rw [eq_self _ (by have := passR_len D S; omega) 3000 (by have := passR_len D S; omega)]
  rfl
theorem rd_pass (D n : Int) (j : Int) (h0 : 0 ≤ j) (h : j < n) : rd (passL D n) j = cl ((j + 1) * D) n := by
  unfold rd; rw [List.getD_eq_getElem?_getD, passL_get _ _ _ (by omega), show ((j.toNat : Int) + 1) = j + 1 by omega]; rfl
theorem least_loop (D S : Int) (hD : 1 ≤ D) (hD2 : D ≤ 10000000) (hS : 1 ≤ S) (hS2 : S ≤ 10000000) (n : Int) (hn : n = cl D S) (hn2 : n ≤ 1000) (d : Nat) : ∀ (k : Nat) (i b : Int), 0 ≤ i → n - i = d → d < k → b = cl (i * D) n →
    swarflaw28_OperationLeast.l0 k D S (passL D n) b (passL D n) n i = some true := by
  have hn1 : 1 ≤ n := by rw [hn]; exact cl_pos hD hS
  have hb := cl_bd D S (by omega)
  rw [← hn] at hb
  induction d with
  | zero =>
    intro k i b h0 hd hk hbe
    obtain ⟨k, rfl⟩ : ∃ m, k = m + 1 := ⟨k - 1, by omega⟩
    obtain rfl : i = n := by omega
    have e : b = D := by rw [hbe]; exact cl_uniq (by omega) (by rw [Int.mul_comm]; omega) (by rw [Int.mul_comm]; omega)
    have hm := prod_bd (i := i) (D := S) (by omega) (by omega) hS hS2
    simp only [swarflaw28_OperationLeast.l0]
    rw [if_neg (by omega), if_pos e, passL_len, show ((i.toNat : Nat) : Int) = i by omega, w64 (n := i - 1) (by omega) (by omega), w64 (n := (i - 1) * S) (by rw [Int.sub_mul]; omega) (by rw [Int.sub_mul]; omega)]
    rw [decide_eq_true (by rw [Int.sub_mul]; omega)]
  | succ d ih =>
    intro k i b h0 hd hk hbe
    obtain ⟨k, rfl⟩ : ∃ m, k = m + 1 := ⟨k - 1, by omega⟩
    have hp := prod_bd (i := i) (D := D) h0 (by omega) hD hD2
    have hp1 := prod_bd (i := i + 1) (D := D) (by omega) (by omega) hD hD2
    have c0 := cl_bd (i * D) n (by omega)
    have c1 := cl_bd ((i + 1) * D) n (by omega)
    have hnD : n ≤ D := by
      rcases Int.lt_or_le D n with h | h
      · have : n - 1 ≤ (n - 1) * S := by have := Int.mul_le_mul_of_nonneg_left hS (by omega : 0 ≤ n - 1); omega
        rw [Int.sub_mul] at this; omega
      · exact h
    have ea : (i + 1) * D = i * D + D := by rw [Int.add_mul]; omega
    -- it ascends
    have up1 : b < cl ((i + 1) * D) n := by
      rw [hbe]
      rcases Int.lt_or_le (cl (i * D) n) (cl ((i + 1) * D) n) with h | h
      · exact h
      · have := Int.mul_le_mul_of_nonneg_right h (by omega : 0 ≤ n); omega
    -- by at most the step
    have up2 : cl ((i + 1) * D) n - b ≤ S := by
      rw [hbe]
      rcases Int.lt_or_le (cl (i * D) n + S) (cl ((i + 1) * D) n) with h | h
      · have h1 := Int.mul_le_mul_of_nonneg_right (show cl (i * D) n + S + 1 ≤ cl ((i + 1) * D) n by omega) (by omega : 0 ≤ n)
        rw [Int.add_mul, Int.add_mul, Int.mul_comm S n] at h1; omega
      · omega
    have hb0 : 0 ≤ b := by rw [hbe]; unfold cl; exact Int.ediv_nonneg (by omega) (by omega)
    simp only [swarflaw28_OperationLeast.l0]
    rw [if_pos (by omega), if_pos h0, if_pos (by rw [passL_len]; omega), rd_pass D n i h0 (by omega), if_neg (by omega), w64 (n := cl ((i + 1) * D) n - b) (by omega) (by omega), if_neg (by omega), w64 (n := i + 1) (by omega) (by omega)]
    exact ih k (i + 1) _ (by omega) (by omega) (by omega) rfl
theorem least_true (D S : Int) : swarflaw28_OperationLeast.f 3000 D S = some true := by
  unfold swarflaw28_OperationLeast.f
  rw [awake_true 3000 (by omega), prog_eq D S 3000 (by omega)]
  simp only [Option.bind_some, if_true]
  unfold passR
  by_cases h : D < 1 ∨ D > 10000000 ∨ S < 1 ∨ S > 10000000
  · rw [if_pos h]; rfl
  · rw [if_neg h]
    by_cases h5 : cl D S > 1000
    · rw [if_pos h5]; rfl
    · rw [if_neg h5, if_pos rfl, passL_len]
      have hp := cl_pos (D := D) (S := S) (by omega) (by omega)
      rw [show (((cl D S).toNat : Nat) : Int) = cl D S by omega]
      refine least_loop D S (by omega) (by omega) (by omega) (by omega) _ rfl (by omega) (cl D S).toNat 3000 0 0 (by omega) (by omega) (by omega) ?_
      exact (cl_uniq (by omega) (by omega) (by omega)).symm
end Go.Proofs.YtlhfafklpchihaaDoor.MAll

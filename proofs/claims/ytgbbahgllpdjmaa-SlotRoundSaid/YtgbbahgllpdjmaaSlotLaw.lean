/- Plain laws of plans' sums. -/
import Derived.Test.YtgbbahgllpdjmaaSlotRuns
import Derived.Test.YtgbbahgllpdjmaaWithin
set_option linter.unusedVariables false
namespace Go.Proofs.Ytgbbahgllpdjmaa
open Go.RowKit
/-- what the first k turns of a plan are served -/
def planSum (b t : Int) (ws : List Int) : Nat → Int
  | 0 => 0
  | k + 1 => planSum b t ws k + serve b ws ((t + k) % 8)
def sumTo (f : Nat → Int) : Nat → Int
  | 0 => 0
  | k + 1 => sumTo f k + f k
theorem planSum_eq (b t : Int) (ws : List Int) : ∀ k, planSum b t ws k = sumTo (fun i => serve b ws ((t + i) % 8)) k
  | 0 => rfl
  | k + 1 => by rw [planSum, planSum_eq b t ws k]; rfl
theorem sum_rotate (f : Int → Int) (t : Int) (h : 0 ≤ t) : sumTo (fun i => f ((t + i) % 8)) 8 = sumTo (fun i => f i) 8 := by
  have h1 : 0 ≤ t % 8 := by omega
  have h2 : t % 8 < 8 := by omega
  have h3 : ∀ i : Nat, (t + i) % 8 = (t % 8 + i) % 8 := fun i => by omega
  simp only [h3]
  generalize t % 8 = r at *
  have hr : r = 0 ∨ r = 1 ∨ r = 2 ∨ r = 3 ∨ r = 4 ∨ r = 5 ∨ r = 6 ∨ r = 7 := by omega
  rcases hr with rfl | rfl | rfl | rfl | rfl | rfl | rfl | rfl <;> simp [sumTo] <;> omega
theorem sum_getD : ∀ (l : List Int) (n : Nat), l.length ≤ n → sumTo (fun i => l[i]?.getD 0) n = l.sum
  | l, 0, h => by
    have : l = [] := List.eq_nil_of_length_eq_zero (by omega)
    subst this; rfl
  | l, n + 1, h => by
    by_cases hl : l.length ≤ n
    · rw [sumTo, sum_getD l n hl, List.getElem?_eq_none hl]
      simp
    · obtain ⟨xs, x, rfl⟩ : ∃ xs x, l = xs ++ [x] := by
        have hne : l ≠ [] := by rintro rfl; simp at hl
        exact ⟨l.dropLast, l.getLast hne, (List.dropLast_concat_getLast hne).symm⟩
      simp at h hl
      have hx : xs.length = n := by omega
      have e1 : sumTo (fun i => (xs ++ [x])[i]?.getD 0) n = sumTo (fun i => xs[i]?.getD 0) n := by
        have : ∀ m, m ≤ n → sumTo (fun i => (xs ++ [x])[i]?.getD 0) m = sumTo (fun i => xs[i]?.getD 0) m := by
          intro m
          induction m with
          | zero => intro _; rfl
          | succ m ih =>
            intro hm
            rw [sumTo, sumTo, ih (by omega), List.getElem?_append_left (by omega)]
        exact this n (Nat.le_refl _)
      rw [sumTo, e1, sum_getD xs n (by omega), ← hx]
      simp
theorem sumTo_congr {f g : Nat → Int} : ∀ (n : Nat), (∀ i, i < n → f i = g i) → sumTo f n = sumTo g n
  | 0, _ => rfl
  | n + 1, h => by rw [sumTo, sumTo, sumTo_congr n fun i hi => h i (by omega), h n (by omega)]
theorem planSum_all (b t : Int) (ws : List Int) (h : 0 ≤ t) (hl : ws.length ≤ 8) (hw : ∀ x ∈ ws, 0 ≤ x ∧ x ≤ b) : planSum b t ws 8 = ws.sum := by
  rw [planSum_eq, sum_rotate (fun j => serve b ws j) t h, ← sum_getD ws 8 hl]
  refine sumTo_congr 8 fun i hi => ?_
  unfold serve
  simp only [Int.toNat_natCast]
  by_cases hi2 : i < ws.length
  · rw [if_pos hi2, List.getElem?_eq_getElem hi2]
    have := hw _ (List.getElem_mem hi2)
    simp only [Option.getD_some]
    omega
  · rw [if_neg hi2, List.getElem?_eq_none (by omega)]
    rfl
theorem serve_none (b : Int) (ws : List Int) (j : Int) (hb : b ≤ 0) : serve b ws j = 0 := by
  unfold serve
  split <;> omega
theorem planSum_none (b t : Int) (ws : List Int) (hb : b ≤ 0) : ∀ k, planSum b t ws k = 0
  | 0 => rfl
  | k + 1 => by rw [planSum, planSum_none b t ws hb k, serve_none b ws _ hb]; rfl
theorem serve_range (b : Int) (ws : List Int) (j : Int) (hb : 0 ≤ b) : 0 ≤ serve b ws j ∧ serve b ws j ≤ b := by
  unfold serve
  split <;> omega
theorem planSum_range (b t : Int) (ws : List Int) (hb : 0 ≤ b) : ∀ k : Nat, 0 ≤ planSum b t ws k ∧ planSum b t ws k ≤ b * k
  | 0 => by simp [planSum]
  | k + 1 => by
    have h1 := planSum_range b t ws hb k
    have h2 := serve_range b ws ((t + k) % 8) hb
    rw [planSum]
    have h3 : b * ((k + 1 : Nat) : Int) = b * k + b := by rw [Int.natCast_add, Int.mul_add]; simp
    omega
/-- how many ticks -/
def tk (n b : Int) : Int := if n ≤ 0 then 0 else if b ≤ 0 then -1 else (n + b - 1) / b
theorem tk_pos (n b : Int) (hn : 0 ≤ n) (hb : 0 < b) : tk n b = (n + b - 1) / b := by
  unfold tk
  by_cases h : n ≤ 0
  · rw [if_pos h, show n = 0 from by omega, Int.ediv_eq_zero_of_lt (by omega) (by omega)]
  · rw [if_neg h, if_neg (by omega)]
theorem tk_spec (n b : Int) (hn : 0 ≤ n) (hb : 0 < b) : 0 ≤ tk n b ∧ n ≤ tk n b * b ∧ (tk n b = 0 ∨ (tk n b - 1) * b < n) ∧ tk n b ≤ n := by
  rw [tk_pos n b hn hb]
  have h1 := Int.emod_nonneg (n + b - 1) (show b ≠ 0 by omega)
  have h2 := Int.emod_lt_of_pos (n + b - 1) hb
  have h3 := Int.mul_ediv_add_emod (n + b - 1) b
  have h4 : 0 ≤ (n + b - 1) / b := Int.ediv_nonneg (by omega) (by omega)
  generalize (n + b - 1) / b = q at *
  generalize (n + b - 1) % b = r at *
  have h5 : q * b = b * q := Int.mul_comm _ _
  have h6 : (q - 1) * b = b * q - b := by rw [Int.sub_mul, h5]; omega
  refine ⟨h4, by omega, .inr (by omega), ?_⟩
  by_cases hq : q ≤ n
  · exact hq
  · exfalso
    have : b * (n + 1) ≤ b * q := Int.mul_le_mul_of_nonneg_left (by omega) (by omega)
    rw [Int.mul_add] at this
    have h7 : n ≤ b * n := by
      have := Int.mul_le_mul_of_nonneg_right (show 1 ≤ b by omega) hn
      omega
    omega
theorem tk_mono (n b c : Int) (hn : 0 ≤ n) (hb : 0 < b) (hc : 0 ≤ c) : tk n (b + c) ≤ tk n b := by
  obtain ⟨h1, h2, h3, h4⟩ := tk_spec n b hn hb
  obtain ⟨g1, g2, g3, g4⟩ := tk_spec n (b + c) hn (by omega)
  generalize tk n b = p at *
  generalize tk n (b + c) = q at *
  by_cases h : q ≤ p
  · exact h
  · exfalso
    rcases g3 with g3 | g3
    · omega
    · have h5 : p * b ≤ (q - 1) * b := Int.mul_le_mul_of_nonneg_right (by omega) (by omega)
      have h6 : 0 ≤ (q - 1) * c := Int.mul_nonneg (by omega) hc
      rw [Int.mul_add] at g3
      omega
theorem tk_step (n b : Int) (hn : 0 < n) (hb : 0 < b) : tk (n - min b n) b = tk n b - 1 := by
  rw [tk_pos n b (by omega) hb, tk_pos _ b (by omega) hb]
  by_cases h : b ≤ n
  · rw [show min b n = b from by omega, show n - b + b - 1 = (n + b - 1) + (-1) * b from by omega, Int.add_mul_ediv_right _ _ (by omega)]
    omega
  · rw [show min b n = n from by omega, Int.ediv_eq_zero_of_lt (by omega) (by omega), show n + b - 1 = (n - 1) + 1 * b from by omega, Int.add_mul_ediv_right _ _ (by omega), Int.ediv_eq_zero_of_lt (by omega) (by omega)]
    omega
end Go.Proofs.Ytgbbahgllpdjmaa

/- Plain words on setups that are made of numbers. -/
import Derived.Test.YtdncpihaeobaeaaGreatPoolS
set_option linter.unusedVariables false
set_option linter.unusedSimpArgs false
namespace Go.Proofs.YtdncpihaeobaeaaGreat
open Go.RowKit
theorem bv_small {a : Int} (h0 : 0 ≤ a) (h1 : a ≤ 255) : (bv a).toNat < 2 ^ 8 := by
  unfold bv
  rw [BitVec.toNat_ofInt]
  omega
theorem below_255 : ∀ n : Fin 256, belowB (n.val : Int) 255 = true := by decide +kernel
theorem belowB_or (a b : Int) (ha0 : 0 ≤ a) (ha1 : a ≤ 255) (hb0 : 0 ≤ b) (hb1 : b ≤ 255) : belowB (bits .or .u64 (bits .or .u64 0 a) b) 255 = true := by
  rw [bits_or64, bits_or64, bv_toNat]
  have h : (bv 0 ||| bv a ||| bv b).toNat < 2 ^ 8 := by
    rw [BitVec.toNat_or, BitVec.toNat_or]
    exact Nat.or_lt_two_pow (Nat.or_lt_two_pow (bv_small (by omega) (by omega)) (bv_small ha0 ha1)) (bv_small hb0 hb1)
  exact below_255 ⟨_, h⟩
theorem sinkOf_range (q : SinkQ) : 1 ≤ (sinkOf q).fr ∧ (sinkOf q).fr ≤ 255 ∧ 0 ≤ (sinkOf q).dst ∧ (sinkOf q).dst ≤ 255 ∧ 2 ≤ (sinkOf q).least ∧ (sinkOf q).least ≤ 4 ∧ 1 ≤ (sinkOf q).agg ∧ (sinkOf q).agg ≤ 4 ∧ 1 ≤ (sinkOf q).ticks ∧ (sinkOf q).ticks ≤ 6 := by
  have h1 := within_range q.fr 1 255 (by omega)
  have h2 := within_range q.dst 0 255 (by omega)
  have h3 := within_range q.least 2 4 (by omega)
  have h4 := within_range q.agg 1 4 (by omega)
  have h5 := within_range q.ticks 1 6 (by omega)
  exact ⟨h1.1, h1.2, h2.1, h2.2, h3.1, h3.2, h4.1, h4.2, h5.1, h5.2⟩
theorem sinkOf_right (q : SinkQ) : rightSk (sinkOf q) = true := by
  obtain ⟨h1, h2, h3, h4, h5, h6, h7, h8, h9, h10⟩ := sinkOf_range q
  unfold rightSk
  rw [belowB_or _ _ (by omega) h2 h3 h4]
  have e : rightK (sinkOf q).agg = true := by unfold rightK; simp; omega
  rw [e]
  simp
  omega
theorem sinkOf_wf (q : SinkQ) : (Lit.int .u64 (sinkOf q).fr).wf = true := by
  obtain ⟨h1, h2, _⟩ := sinkOf_range q
  exact wf_u64_mk (by omega) (by omega)
/-- The sinks of a setup of numbers. -/
def sksOf (k : SetQ) : List Sk := (k.sinks.take 2).map sinkOf
theorem sksOf_of (k : SetQ) : ∀ x ∈ sksOf k, ∃ q, x = sinkOf q := by
  intro x hx
  obtain ⟨q, _, rfl⟩ := List.mem_map.1 hx
  exact ⟨q, rfl⟩
theorem sksOf_len (k : SetQ) : (sksOf k).length ≤ 2 := by unfold sksOf; simp; omega
theorem sksOf_wf (k : SetQ) : ∀ x ∈ sksOf k, (Lit.int .u64 x.fr).wf = true := by
  intro x hx
  obtain ⟨q, rfl⟩ := sksOf_of k x hx
  exact sinkOf_wf q
theorem right_of (k : SetQ) (b r q : Int) (hb0 : 1 ≤ b) (hb1 : b ≤ 8) (hr0 : 1 ≤ r) (hr1 : r ≤ 16) (hq0 : 0 ≤ q) (hq1 : q ≤ 4000) : rightSu ⟨b, r, q, sksOf k⟩ = true := by
  have e : rightSks (sksOf k) = true := by
    unfold rightSks
    have := sksOf_len k
    rw [Bool.and_eq_true, List.all_eq_true]
    refine ⟨fun x hx => ?_, by simp; omega⟩
    obtain ⟨q, rfl⟩ := sksOf_of k x hx
    exact sinkOf_right q
  rw [rightSu_four]
  dsimp only
  rw [e]
  simp
  omega
/-- The setup of numbers. -/
def suOf (k : SetQ) : Su := ⟨within k.budget 1 4, within k.room 1 8, within k.quota 0 30, sksOf k⟩
theorem suOf_right (k : SetQ) : rightSu (suOf k) = true := by
  have h1 := within_range k.budget 1 4 (by omega)
  have h2 := within_range k.room 1 8 (by omega)
  have h3 := within_range k.quota 0 30 (by omega)
  exact right_of k _ _ _ (by omega) (by omega) (by omega) (by omega) (by omega) (by omega)
theorem wrong_budget (b r q : Int) (l : List Sk) (h : b < 1 ∨ 8 < b) : rightSu ⟨b, r, q, l⟩ = false := by
  rw [rightSu_four]
  rcases h with h | h
  · have : decide (1 ≤ b) = false := by simp; omega
    simp [this]
  · have : decide (b ≤ 8) = false := by simp; omega
    simp [this]
theorem wrong_room (b r q : Int) (l : List Sk) (h : r < 1 ∨ 16 < r) : rightSu ⟨b, r, q, l⟩ = false := by
  rw [rightSu_four]
  rcases h with h | h
  · have : decide (1 ≤ r) = false := by simp; omega
    simp [this]
  · have : decide (r ≤ 16) = false := by simp; omega
    simp [this]
theorem wrong_quota (b r q : Int) (l : List Sk) (h : q < 0 ∨ 4000 < q) : rightSu ⟨b, r, q, l⟩ = false := by
  rw [rightSu_four]
  rcases h with h | h
  · have : decide (0 ≤ q) = false := by simp; omega
    simp [this]
  · have : decide (q ≤ 4000) = false := by simp; omega
    simp [this]
theorem wrong_sinks (b r q : Int) (l : List Sk) (h : rightSks l = false) : rightSu ⟨b, r, q, l⟩ = false := by
  rw [rightSu_four]
  dsimp only
  rw [h]
  simp
def badSk : Sk := ⟨1, 0, 1, 1, 1⟩
theorem wrong_more (l : List Sk) : rightSks (l ++ [badSk]) = false := by
  unfold rightSks
  rw [List.all_append]
  have : ([badSk].all rightSk) = false := by decide +kernel
  rw [this]
  simp
def oneSk : Sk := ⟨3, 0, 2, 1, 1⟩
theorem wrong_five : rightSks [oneSk, oneSk, oneSk, oneSk, oneSk] = false := by
  unfold rightSks
  simp
end Go.Proofs.YtdncpihaeobaeaaGreat

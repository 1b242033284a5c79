/- The plain law of PanesSums: one stream, four kinds. -/
import Derived.Test.YtapmfekeooeinaaOrderLaw
set_option linter.unusedVariables false
set_option linter.unusedSimpArgs false
namespace Go.Proofs.Ytapmfekeooeinaa
open Go.RowKit Go.Maps
/-- Four windows of one place, each of its own kind, behind c events. -/
def Four (c : Nat) (o1 o2 o3 o4 : Option Pn) : Prop :=
  (c = 0 ∧ o1 = none ∧ o2 = none ∧ o3 = none ∧ o4 = none) ∨
  ∃ x1 x2 x3 x4 : Pn, o1 = some x1 ∧ o2 = some x2 ∧ o3 = some x3 ∧ o4 = some x4 ∧ 1 ≤ c ∧ (x1.k = 1 ∧ x2.k = 2 ∧ x3.k = 3 ∧ x4.k = 4) ∧ (x1.c = c ∧ x2.c = c ∧ x3.c = c ∧ x4.c = c) ∧
    x1.v = c ∧ (-1000 * (c : Int) ≤ x2.v ∧ x2.v ≤ 1000 * c) ∧ (-1000 ≤ x3.v ∧ x3.v ≤ x4.v ∧ x4.v ≤ 1000) ∧ (c : Int) * x3.v ≤ x2.v ∧ x2.v ≤ c * x4.v
theorem wrap_small {x : Int} (h0 : -9223372036854775808 ≤ x) (h1 : x ≤ 9223372036854775807) : wrap64 x = x := by
  unfold wrap64
  omega
theorem Four.step {c : Nat} {o1 o2 o3 o4 : Option Pn} (h : Four c o1 o2 o3 o4) (hc : c ≤ 15) (e : Ev) (h0 : -1000 ≤ e.value) (h1 : e.value ≤ 1000) : Four (c + 1) (stepO 1 o1 e) (stepO 2 o2 e) (stepO 3 o3 e) (stepO 4 o4 e) := by
  right
  rcases h with ⟨rfl, rfl, rfl, rfl, rfl⟩ | ⟨x1, x2, x3, x4, rfl, rfl, rfl, rfl, hc1, ⟨k1, k2, k3, k4⟩, ⟨c1, c2, c3, c4⟩, v1, ⟨v2, v2'⟩, ⟨v3, v3', v4⟩, m1, m2⟩
  · refine ⟨_, _, _, _, rfl, rfl, rfl, rfl, by omega, ⟨rfl, rfl, rfl, rfl⟩, ⟨rfl, rfl, rfl, rfl⟩, ?_⟩
    simp only [Option.getD_none, stepPn, takeV]
    simp [wrap_small (x := 0 + e.value) (by omega) (by omega), wrap_small (x := 1) (by omega) (by omega), wrap_small (x := e.value) (by omega) (by omega)]
    omega
  · have hx1 : (stepPn x1 e.value e.label).v = (c : Int) + 1 := by
      show takeV x1.k x1.c x1.v e.value 1 = _
      unfold takeV
      rw [k1, v1]
      simp only [if_true]
      exact wrap_small (by omega) (by omega)
    have hx2 : (stepPn x2 e.value e.label).v = x2.v + e.value := by
      show takeV x2.k x2.c x2.v e.value 1 = _
      unfold takeV
      rw [k2]
      simp
      exact wrap_small (by omega) (by omega)
    have hcn : ¬ c = 0 := by omega
    have hx3 : (stepPn x3 e.value e.label).v = if e.value < x3.v then e.value else x3.v := by
      show takeV x3.k x3.c x3.v e.value 1 = _
      unfold takeV
      rw [k3, c3]
      simp [hcn]
    have hx4 : (stepPn x4 e.value e.label).v = if x4.v < e.value then e.value else x4.v := by
      show takeV x4.k x4.c x4.v e.value 1 = _
      unfold takeV
      rw [k4, c4]
      simp [hcn]
    have hm3 : (stepPn x3 e.value e.label).v ≤ x3.v ∧ (stepPn x3 e.value e.label).v ≤ e.value ∧ -1000 ≤ (stepPn x3 e.value e.label).v := by
      rw [hx3]
      split <;> omega
    have hm4 : x4.v ≤ (stepPn x4 e.value e.label).v ∧ e.value ≤ (stepPn x4 e.value e.label).v ∧ (stepPn x4 e.value e.label).v ≤ 1000 := by
      rw [hx4]
      split <;> omega
    have p3 := Int.mul_le_mul_of_nonneg_left hm3.1 (show 0 ≤ (c : Int) by omega)
    have p4 := Int.mul_le_mul_of_nonneg_left hm4.1 (show 0 ≤ (c : Int) by omega)
    refine ⟨_, _, _, _, rfl, rfl, rfl, rfl, by omega, ⟨k1, k2, k3, k4⟩, ⟨?_, ?_, ?_, ?_⟩, ?_, ⟨?_, ?_⟩, ⟨hm3.2.2, ?_, hm4.2.2⟩, ?_, ?_⟩
    · show x1.c + 1 = _; rw [c1]; simp
    · show x2.c + 1 = _; rw [c2]; simp
    · show x3.c + 1 = _; rw [c3]; simp
    · show x4.c + 1 = _; rw [c4]; simp
    · simp only [Option.getD_some]; rw [hx1]; simp
    · simp only [Option.getD_some]; rw [hx2]; simp; omega
    · simp only [Option.getD_some]; rw [hx2]; simp; omega
    · simp only [Option.getD_some]; omega
    · simp only [Option.getD_some]
      rw [hx2, Int.natCast_add, Int.add_mul]
      simp
      omega
    · simp only [Option.getD_some]
      rw [hx2, Int.natCast_add, Int.add_mul]
      simp
      omega
theorem Four.fold : ∀ (F : List Ev) (c : Nat) (o1 o2 o3 o4 : Option Pn), Four c o1 o2 o3 o4 → c + F.length ≤ 15 → (∀ e ∈ F, -1000 ≤ e.value ∧ e.value ≤ 1000) → Four (c + F.length) (F.foldl (stepO 1) o1) (F.foldl (stepO 2) o2) (F.foldl (stepO 3) o3) (F.foldl (stepO 4) o4)
  | [], c, _, _, _, _, h, _, _ => h
  | e :: F, c, o1, o2, o3, o4, h, hc, hv => by
    simp only [List.length_cons] at hc ⊢
    have h1 := hv e (by simp)
    have := Four.fold F (c + 1) _ _ _ _ (h.step (by omega) e h1.1 h1.2) (by omega) (fun e he => hv e (by simp [he]))
    rw [show c + (F.length + 1) = c + 1 + F.length by omega]
    exact this
theorem four_look {n s : Int} {es : List Ev} (hw : ∀ e ∈ es, e.wf) (hl : es.length ≤ 15) (hv : ∀ e ∈ es, -1000 ≤ e.value ∧ e.value ≤ 1000) (p : Pl) :
    ∃ c, Four c (lookL (putL 1 n s [] es) p) (lookL (putL 2 n s [] es) p) (lookL (putL 3 n s [] es) p) (lookL (putL 4 n s [] es) p) ∧ c ≤ 15 := by
  rw [putL_look p es [] hw List.Pairwise.nil, putL_look p es [] hw List.Pairwise.nil, putL_look p es [] hw List.Pairwise.nil, putL_look p es [] hw List.Pairwise.nil]
  have hf := List.length_filter_le (touch n s p) es
  exact ⟨0 + (es.filter (touch n s p)).length, Four.fold _ 0 none none none none (.inl ⟨rfl, rfl, rfl, rfl, rfl⟩) (by omega) (fun e he => hv e (List.mem_filter.1 he).1), by omega⟩
theorem places_same {L M : PL} (hL : SortedL L) (hM : SortedL M) (h : ∀ p, (lookL L p).isSome = (lookL M p).isSome) : L.map (·.1) = M.map (·.1) := by
  refine sorted_ext (List.pairwise_map.2 hL) (List.pairwise_map.2 hM) fun p => ?_
  have hh := h p
  simp only [List.mem_map]
  constructor
  · rintro ⟨⟨q, x⟩, hx, rfl⟩
    rw [(lookL_some hL).2 hx] at hh
    obtain ⟨y, hy⟩ := Option.isSome_iff_exists.1 hh.symm
    exact ⟨(q, y), (lookL_some hM).1 hy, rfl⟩
  · rintro ⟨⟨q, x⟩, hx, rfl⟩
    rw [(lookL_some hM).2 hx] at hh
    obtain ⟨y, hy⟩ := Option.isSome_iff_exists.1 hh
    exact ⟨(q, y), (lookL_some hL).1 hy, rfl⟩
/-- The four lists of rows, row by row. -/
theorem four_rows {n s : Int} {es : List Ev} (hw : ∀ e ∈ es, e.wf) (hl : es.length ≤ 15) (hv : ∀ e ∈ es, -1000 ≤ e.value ∧ e.value ≤ 1000) :
    (rowsL (putL 2 n s [] es)).length = (rowsL (putL 1 n s [] es)).length ∧ (rowsL (putL 3 n s [] es)).length = (rowsL (putL 1 n s [] es)).length ∧ (rowsL (putL 4 n s [] es)).length = (rowsL (putL 1 n s [] es)).length ∧
    ∀ (i : Nat) (h1 : i < (rowsL (putL 1 n s [] es)).length) (h2 : i < (rowsL (putL 2 n s [] es)).length) (h3 : i < (rowsL (putL 3 n s [] es)).length) (h4 : i < (rowsL (putL 4 n s [] es)).length),
      let a := (rowsL (putL 1 n s [] es))[i]; let b := (rowsL (putL 2 n s [] es))[i]; let c := (rowsL (putL 3 n s [] es))[i]; let d := (rowsL (putL 4 n s [] es))[i]
      a.value = a.count ∧ b.count = a.count ∧ 1 ≤ a.count ∧ a.count ≤ 15 ∧ (-1000 ≤ c.value ∧ c.value ≤ d.value ∧ d.value ≤ 1000) ∧ a.count * c.value ≤ b.value ∧ b.value ≤ a.count * d.value ∧ d.start = a.start ∧ c.key = a.key := by
  have hs := fun k => putL_sorted (kd := k) (sz := n) (sl := s) es [] List.Pairwise.nil
  have hk : ∀ k, k = 2 ∨ k = 3 ∨ k = 4 → (putL k n s [] es).map (·.1) = (putL 1 n s [] es).map (·.1) := by
    intro k hk
    refine places_same (hs k) (hs 1) fun p => ?_
    obtain ⟨c, h, _⟩ := four_look (n := n) (s := s) hw hl hv p
    rcases h with ⟨_, e1, e2, e3, e4⟩ | ⟨x1, x2, x3, x4, e1, e2, e3, e4, _⟩
    · rcases hk with rfl | rfl | rfl <;> simp [e1, e2, e3, e4]
    · rcases hk with rfl | rfl | rfl <;> simp [e1, e2, e3, e4]
  have hlen : ∀ k, k = 2 ∨ k = 3 ∨ k = 4 → (rowsL (putL k n s [] es)).length = (rowsL (putL 1 n s [] es)).length := by
    intro k h
    have := congrArg List.length (hk k h)
    simpa [rowsL] using this
  refine ⟨hlen 2 (by simp), hlen 3 (by simp), hlen 4 (by simp), fun i h1 h2 h3 h4 => ?_⟩
  simp only [rowsL, List.length_map] at h1 h2 h3 h4
  simp only [rowsL, List.getElem_map]
  have hp : ∀ k (h : k = 2 ∨ k = 3 ∨ k = 4) (hi : i < (putL k n s [] es).length), (putL k n s [] es)[i].1 = (putL 1 n s [] es)[i].1 := by
    intro k h hi
    have := List.getElem_of_eq (hk k h) (i := i) (by simpa using hi)
    simpa using this
  have hx : ∀ k (hi : i < (putL k n s [] es).length), lookL (putL k n s [] es) (putL k n s [] es)[i].1 = some (putL k n s [] es)[i].2 := fun k hi => (lookL_some (hs k)).2 (List.getElem_mem hi)
  obtain ⟨c, h, hc⟩ := four_look (n := n) (s := s) hw hl hv (putL 1 n s [] es)[i].1
  have e1 := hx 1 h1
  have e2 := hx 2 h2
  have e3 := hx 3 h3
  have e4 := hx 4 h4
  have q2 := hp 2 (by simp) h2
  have q3 := hp 3 (by simp) h3
  have q4 := hp 4 (by simp) h4
  rw [q2] at e2
  rw [q3] at e3
  rw [q4] at e4
  rw [e1, e2, e3, e4] at h
  rcases h with ⟨_, h, _⟩ | ⟨x1, x2, x3, x4, f1, f2, f3, f4, hc1, _, ⟨c1, c2, c3, c4⟩, v1, _, hv3, m1, m2⟩
  · cases h
  · cases f1; cases f2; cases f3; cases f4
    simp only [rowOf]
    rw [q4, q3, c1, c2, v1]
    exact ⟨rfl, rfl, by omega, by omega, hv3, m1, m2, rfl, rfl⟩
end Go.Proofs.Ytapmfekeooeinaa

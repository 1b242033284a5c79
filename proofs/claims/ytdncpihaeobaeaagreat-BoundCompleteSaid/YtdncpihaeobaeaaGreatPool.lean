/- Many things at once: lists of things in one place of the list; what stays readable whatever one thing does. -/
import Derived.Test.YtdncpihaeobaeaaGreatK4
set_option linter.unusedVariables false
namespace Go.Proofs.YtdncpihaeobaeaaGreat
open Go.RowKit
theorem sepL_unsplit {L K M : List HP} {n : Nat} {h : Nat → Option Obj} (hn : n < L.length) (s : sepL (L.set n emp ++ (K ++ M)) h) : sepL (L.set n (sepL K) ++ M) h := by
  obtain ⟨own, ho⟩ := s
  refine ⟨fun b => if L.length ≤ own b ∧ own b < L.length + K.length then n else if own b = n then L.length + M.length else if own b < L.length then own b else own b - K.length, fun i P hi => ?_⟩
  by_cases hil : i < L.length
  · rw [List.getElem?_append_left (by simpa using hil), List.getElem?_set] at hi
    split at hi
    · rename_i e
      subst e
      try rw [if_pos hn] at hi
      cases hi
      refine ⟨fun b => own b - L.length, fun j Q hj => ?_⟩
      have hjl := (List.getElem?_eq_some_iff.1 hj).1
      have := ho (L.length + j) Q (by rw [List.getElem?_append_right (by simp)]; simp only [List.length_set, Nat.add_sub_cancel_left]; rw [List.getElem?_append_left hjl]; exact hj)
      rw [part_part]
      refine cast (congrArg Q (part_own fun b => ?_)) this
      simp only [beq_iff_eq, Bool.and_eq_true]
      constructor
      · intro he
        exact ⟨by rw [if_pos (by omega)], by omega⟩
      · rintro ⟨h1, h2⟩
        split at h1
        · omega
        · split at h1
          · omega
          · split at h1 <;> omega
    · rename_i hne
      have := ho i P (by rw [List.getElem?_append_left (by simpa using hil), List.getElem?_set, if_neg hne]; exact hi)
      refine cast (congrArg P (part_own fun b => ?_)) this
      simp only [beq_iff_eq]
      constructor
      · intro he
        rw [if_neg (by omega), if_neg (by omega), if_pos (by omega), he]
      · intro he
        split at he
        · omega
        · split at he
          · omega
          · split at he <;> omega
  · rw [List.getElem?_append_right (by simpa using hil)] at hi
    simp only [List.length_set] at hi
    have hk := (List.getElem?_eq_some_iff.1 hi).1
    have := ho (i + K.length) P (by
      rw [List.getElem?_append_right (by simp; omega), List.getElem?_append_right (by simp; omega)]
      simp only [List.length_set]
      rw [show i + K.length - L.length - K.length = i - L.length from by omega]
      exact hi)
    refine cast (congrArg P (part_own fun b => ?_)) this
    simp only [beq_iff_eq]
    constructor
    · intro he
      rw [if_neg (by omega), if_neg (by omega), if_neg (by omega)]
      omega
    · intro he
      split at he
      · omega
      · split at he
        · omega
        · split at he <;> omega
theorem St.unsplit {w0 w : World} {L K M : List HP} {n : Nat} (h : St w0 w (L.set n _root_.Go.Proofs.YtdncpihaeobaeaaGreat.emp ++ (K ++ M))) (hn : n < L.length) : St w0 w (L.set n (sepL K) ++ M) := ⟨h.below, sepL_unsplit hn h.sep⟩
/-- One thing of a list of things is known as well as the list. -/
theorem St.part {w0 w : World} {L K : List HP} (h : St w0 w L) (n : Nat) (hn : L[n]? = some (sepL K)) : St w0 w K := by
  have h1 := (h.front n hn)
  have h2 : St w0 w [sepL K] := by simpa using h1.pick [0] (by decide)
  simpa using h2.unwrap
theorem St.of {w0 w : World} {L : List HP} (h : St w0 w L) (n : Nat) {X : HP} (hn : L[n]? = some X) : St w0 w [X] := by
  simpa using (h.front n hn).pick [0] (by decide)
theorem St.none {w0 w : World} {L : List HP} (h : St w0 w L) : St w0 w [] := by simpa using h.pick [] (by simp)
/-- What holds as long as all but one thing are kept. -/
def Kept (w0 : World) (L : List HP) (n : Nat) (φ : World → Prop) : Prop := ∀ (w' : World) (L' : List HP), St w0 w' L' → (∀ i, i < L.length → i ≠ n → L'[i]? = L[i]?) → φ w'
theorem Kept.old {w0 : World} {L : List HP} {n : Nat} {α : Type} {c : Nat} {enc : α → List Value} {a : Option Addr} {l : List α} (h : SlAt c (flat enc) w0 a l) : Kept w0 L n (fun w => SlAt c (flat enc) w a l) := fun w' L' hs _ => h.below hs.below fun _ _ h => h
theorem Kept.own {w0 : World} {L : List HP} {n : Nat} {α : Type} {c : Nat} {enc : α → List Value} (hc : ∀ x, (enc x).length = c) {e : TypeId} {a : Option Addr} {k cap : Nat} {l : List α} (m : Nat) (hm : L[m]? = some (ownP e c enc (.slice a k cap) l)) (hd : m ≠ n) : Kept w0 L n (fun w => SlAt c (flat enc) w a l) :=
  fun w' L' hs hk => hs.slOf hc m ((hk m (List.getElem?_eq_some_iff.1 hm).1 hd).trans hm)
theorem Kept.see {w0 : World} {L : List HP} {n : Nat} {α : Type} {c : Nat} {enc : α → List Value} (hc : ∀ x, (enc x).length = c) {a : Option Addr} {k cap : Nat} {l : List α} (m : Nat) (hm : L[m]? = some (seeP c enc (.slice a k cap) l)) (hd : m ≠ n) : Kept w0 L n (fun w => SlAt c (flat enc) w a l) :=
  fun w' L' hs hk => hs.sees hc m ((hk m (List.getElem?_eq_some_iff.1 hm).1 hd).trans hm)
theorem Kept.now {w0 w : World} {L : List HP} {n : Nat} {φ : World → Prop} (h : Kept w0 L n φ) (hs : St w0 w L) : φ w := h w L hs fun _ _ _ => rfl
/-- The list may be turned at that one place, and grow. -/
theorem Kept.step {w0 : World} {L : List HP} {n : Nat} {φ : World → Prop} (h : Kept w0 L n φ) (X : HP) (K : List HP) : Kept w0 (L.set n X ++ K) n φ := by
  intro w' L' hs hk
  refine h w' L' hs fun i hi hne => ?_
  rw [hk i (by simp; omega) hne, List.getElem?_append_left (by simpa using hi), List.getElem?_set, if_neg (by omega)]
theorem Kept.step0 {w0 : World} {L : List HP} {n : Nat} {φ : World → Prop} (h : Kept w0 L n φ) (X : HP) : Kept w0 (L.set n X) n φ := by simpa using h.step X []
theorem Kept.grow {w0 : World} {L : List HP} {n : Nat} {φ : World → Prop} (h : Kept w0 L n φ) (K : List HP) : Kept w0 (L ++ K) n φ := by
  intro w' L' hs hk
  exact h w' L' hs fun i hi hne => by rw [hk i (by simp; omega) hne, List.getElem?_append_left hi]
theorem Kept.imp {w0 : World} {L : List HP} {n : Nat} {φ ψ : World → Prop} (h : Kept w0 L n φ) (hi : ∀ w, φ w → ψ w) : Kept w0 L n ψ := fun w' L' hs hk => hi _ (h w' L' hs hk)
/-- Seen in what stays. -/
theorem Kept.seen {w0 : World} {L K : List HP} {n : Nat} {α : Type} {c : Nat} {enc : α → List Value} {a : Option Addr} {l : List α} (h : Kept w0 L n (fun w => SlAt c (flat enc) w a l)) (hK : ∀ i, i < L.length → i ≠ n → K[i]? = L[i]?) : Seen w0 (sepL K) c enc a l := by
  intro w' L' m hs hm
  exact h w' K (hs.part m hm) hK
theorem seeP_mono {α : Type} {c : Nat} {enc : α → List Value} {v : Value} {l : List α} {h h' : Nat → Option Obj} (hh : seeP c enc v l h) (hs : ∀ b o, h b = some o → h' b = some o) : seeP c enc v l h' := by
  rcases hh with h1 | ⟨b, o, cap, h1, h2, h3, h4⟩
  · exact .inl h1
  · refine .inr ⟨b, o, cap, h1, h2, h3, ?_⟩
    rcases h4 with rfl | ⟨cs, T, fr, hb, h4⟩
    · exact .inl rfl
    · exact .inr ⟨cs, T, fr, hs _ _ hb, h4⟩
theorem seeP_at {α : Type} {c : Nat} {enc : α → List Value} (hc : ∀ x, (enc x).length = c) {a : Option Addr} {k cap : Nat} {l : List α} {w0 w : World} {F : Nat → Bool} (hF : seeP c enc (.slice a k cap) l (part (above w0 w) F)) : SlAt c (flat enc) w a l ∧ l.length = k ∧ k ≤ cap ∧ cap ≤ maxLen ∧ (a = none → cap = 0) := by
  rcases hF with ⟨h1, rfl⟩ | ⟨b, o, cap', h1, h2, h3, h4⟩
  · cases h1
    exact ⟨.inl rfl, rfl, Nat.le_refl _, Nat.zero_le _, fun _ => rfl⟩
  · cases h1
    refine ⟨?_, rfl, h2, h3, fun h => by cases h⟩
    rcases h4 with rfl | ⟨cs, T, fr, hb, h4⟩
    · exact .inl rfl
    · have hb' := above_some (part_some hb).2
      refine .inr ⟨b, o, rfl, (Array.getElem?_eq_some_iff.1 hb'.2).1, fun k hk => ⟨enc l[k], hc _, fun j hj => ?_, rfl⟩⟩
      have : w.cell? ⟨b, o + k * c + j, none⟩ = cs[o + k * c + j]? := by simp [World.cell?, hb'.2]
      rw [this, h4 k hk j hj]
/-- A pool: things that are only read, in memory that they may share. -/
def poolP {α : Type} (R : α → HP) (l : List α) : HP := fun h => ∀ x ∈ l, ∃ f : Nat → Bool, R x (_root_.Go.Proofs.YtdncpihaeobaeaaGreat.part h f)
theorem poolP_nil {α : Type} (R : α → HP) (h : Nat → Option Obj) : poolP R [] h := fun x hx => by simp at hx
theorem poolP_sub {α : Type} {R : α → HP} {l l' : List α} {h : Nat → Option Obj} (hh : poolP R l h) (hs : ∀ x ∈ l', x ∈ l) : poolP R l' h := fun x hx => hh x (hs x hx)
theorem poolP_two {α : Type} {R : α → HP} {l l' : List α} {h : Nat → Option Obj} (hh : sepL [poolP R l, poolP R l'] h) : poolP R (l ++ l') h := by
  obtain ⟨own, ho⟩ := hh
  intro x hx
  rcases List.mem_append.1 hx with hx | hx
  · obtain ⟨f, hf⟩ := ho 0 _ rfl x hx
    rw [part_part] at hf
    exact ⟨_, hf⟩
  · obtain ⟨f, hf⟩ := ho 1 _ rfl x hx
    rw [part_part] at hf
    exact ⟨_, hf⟩
theorem poolP_one {α : Type} {R : α → HP} (x : α) {h : Nat → Option Obj} (hh : R x h) : poolP R [x] h := by
  intro y hy
  obtain rfl : y = x := by simpa using hy
  refine ⟨fun _ => true, ?_⟩
  have : _root_.Go.Proofs.YtdncpihaeobaeaaGreat.part h (fun _ => true) = h := by funext b; simp [_root_.Go.Proofs.YtdncpihaeobaeaaGreat.part]
  rw [this]
  exact hh
theorem St.pool {α : Type} {R : α → HP} {l : List α} {w0 w : World} {L : List HP} (h : St w0 w L) (n : Nat) (hn : L[n]? = some (poolP R l)) (x : α) (hx : x ∈ l) : ∃ F : Nat → Bool, R x (_root_.Go.Proofs.YtdncpihaeobaeaaGreat.part (above w0 w) F) := by
  obtain ⟨F, hF⟩ := h.at n hn
  obtain ⟨f, hf⟩ := hF x hx
  rw [part_part] at hf
  exact ⟨_, hf⟩
theorem Kept.pool {α β : Type} {R : α → HP} {l : List α} {w0 : World} {L : List HP} {n : Nat} (m : Nat) (hm : L[m]? = some (poolP R l)) (hd : m ≠ n) (x : α) (hx : x ∈ l) : Kept w0 L n (fun w => ∃ F : Nat → Bool, R x (_root_.Go.Proofs.YtdncpihaeobaeaaGreat.part (above w0 w) F)) :=
  fun w' L' hs hk => hs.pool m ((hk m (List.getElem?_eq_some_iff.1 hm).1 hd).trans hm) x hx
/-- Two things become one. -/
theorem St.merge {w0 w : World} {L : List HP} (h : St w0 w L) (i j : Nat) (hij : i ≠ j) {X Y Z : HP} (hi : L[i]? = some X) (hj : L[j]? = some Y) (H : ∀ h, sepL [X, Y] h → Z h) : St w0 w ((L.set j _root_.Go.Proofs.YtdncpihaeobaeaaGreat.emp).set i Z) := by
  have hil := (List.getElem?_eq_some_iff.1 hi).1
  have hjl := (List.getElem?_eq_some_iff.1 hj).1
  have h1 := h.fold i [j] (by simp; omega) hil
  have h2 : (((wipe L [j]).set i (sepL ((i :: [j]).map fun j => L.getD j _root_.Go.Proofs.YtdncpihaeobaeaaGreat.emp))))[i]? = some (sepL [X, Y]) := by
    rw [List.getElem?_set_self (by rw [wipe_len]; exact hil)]
    simp [hi, hj]
  have h3 := h1.imp i h2 H
  simpa [wipe, List.set_set] using h3
end Go.Proofs.YtdncpihaeobaeaaGreat

/- Acts that are kept: what they show to a callee. -/
import Derived.Test.YtdncpihaeobaeaaGreatRead19
set_option linter.unusedVariables false
set_option linter.unusedSimpArgs false
namespace Go.Proofs.YtdncpihaeobaeaaGreat
open Go.RowKit
theorem Seen.pool {α β : Type} {R : β → HP} {xs : List β} {w0 : World} {K : List HP} {c : Nat} {enc : α → List Value} (n : Nat) (hn : K[n]? = some (poolP R xs)) (x : β) (hx : x ∈ xs) {a : Option Addr} {l : List α}
    (H : ∀ (w : World) (F : Nat → Bool), R x (part (above w0 w) F) → SlAt c (flat enc) w a l) : Seen w0 (sepL K) c enc a l := by
  intro w' L' m hs hm
  have h1 := hs.split m hm
  obtain ⟨F, hF⟩ := h1.pool (L'.length + n) (by rw [List.getElem?_append_right (by simp)]; simpa using hn) x hx
  exact H w' F hF
/-- What doAll_in asks of acts. -/
def ActsOK (w0 : World) (R : HP) (us : List ActR) : Prop := ∀ a ∈ us, Seen w0 R 2 Opr.cells a.oa a.p.ops ∧ (a.oa = none → a.oc = 0) ∧ a.val.ok
theorem acts_ok {w0 w : World} {L : List HP} {us : List ActR} (h : St w0 w L) (n : Nat) (hn : L[n]? = some (poolP actP us)) (hok : ∀ a ∈ us, a.val.ok) (K : List HP) (m : Nat) (hm : K[m]? = some (poolP actP us)) : ActsOK w0 (sepL K) us := by
  intro a ha
  refine ⟨Seen.pool m hm a ha fun w F hF => (seeP_at Opr.len hF).1, ?_, hok a ha⟩
  obtain ⟨F, hF⟩ := h.pool n hn a ha
  exact (seeP_at Opr.len hF).2.2.2.2
theorem ActsOK.sub {w0 : World} {R : HP} {us vs : List ActR} (h : ActsOK w0 R us) (hs : ∀ a ∈ vs, a ∈ us) : ActsOK w0 R vs := fun a ha => h a (hs a ha)
theorem vals_ok {us : List ActR} {l : List ActQ} (h : us.map ActR.val = actsOf l) : ∀ a ∈ us, a.val.ok := fun a ha => actsOf_ok l _ (by rw [← h]; exact List.mem_map_of_mem ha)
theorem vals_len {us : List ActR} {l : List ActQ} (h : us.map ActR.val = actsOf l) : us.length ≤ 40 := by
  have := actsOf_len l
  rw [← h] at this
  simpa using this
end Go.Proofs.YtdncpihaeobaeaaGreat

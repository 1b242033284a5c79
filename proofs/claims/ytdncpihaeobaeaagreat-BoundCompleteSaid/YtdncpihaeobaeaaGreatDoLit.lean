/- core.Do with one act that lies in a block of its own. -/
import Derived.Test.YtdncpihaeobaeaaGreatCoreRuns
import Derived.Test.YtdncpihaeobaeaaGreatPoolS
set_option linter.unusedVariables false
set_option linter.unusedSimpArgs false
namespace Go.Proofs.YtdncpihaeobaeaaGreat
open Go.RowKit
theorem sk_nil {w0 w : World} {L : List HP} {a : Option Addr} {k c : Nat} {l : List Sk} (h : St w0 w L) (n : Nat) (hn : L[n]? = some (ownP 113 5 Sk.cells (.slice a k c) l)) : a = none → c = 0 := by
  obtain ⟨a', c', e, _, _, h4, _⟩ := h.sl Sk.len n hn
  cases e
  exact h4
theorem doLit_st {w0 w : World} {L : List HP} {cb sc sn N g : Nat} {sa : Option Addr} {co : Co} {l : List Sk} {B : HP} (h : St w0 w L) (ic js ia : Nat) (hic : L[ic]? = some (coP cb sa sc co N)) (hjs : L[js]? = some (ownP 113 5 Sk.cells (.slice sa sn sc) l)) (hl : co.s.sinks = l) (a : ActR) (hb : L[ia]? = some B) (hB : B = pt g (.cells ([a].flatMap ActR.cells).toArray 67 (0, 0))) (hd1 : ic ≠ js) (hd2 : ic ≠ ia)
    (h1 : a.oa = none) (h2 : a.oc = 0) (h3 : a.p.ops = []) (hok : a.val.ok) (hN : N + 9 < 2 ^ 26) (r : Ans × Co) (hr : co.do1 a.val = r) :
    Calls Tryz.prog 16 #[.pointer (some ⟨cb, 0, none⟩), .slice (some ⟨g, 0, none⟩) 1 1] w fun x w' => ∃ ua uc u, x = .returned (.slice ua 1 uc) ∧ 1 ≤ uc ∧ AnsR.val u = r.1 ∧
      St w0 w' (L.set ic (coP cb sa sc r.2 (N + 9)) ++ [ownP 51 3 AnsR.cells (.slice ua 1 uc) [u], poolP ansP [u]]) := by
  subst hB hl hr
  have hlen := (List.getElem?_eq_some_iff.1 hic).1
  have e1 : (L.set ic _root_.Go.Proofs.YtdncpihaeobaeaaGreat.emp)[js]? = L[js]? := by rw [List.getElem?_set, if_neg hd1]
  have e2 : (L.set ic _root_.Go.Proofs.YtdncpihaeobaeaaGreat.emp)[ia]? = L[ia]? := by rw [List.getElem?_set, if_neg hd2]
  have hs : Seen w0 (sepL (L.set ic _root_.Go.Proofs.YtdncpihaeobaeaaGreat.emp)) 5 Sk.cells sa co.s.sinks := Seen.own Sk.len js (e1.trans hjs)
  have hk : Seen w0 (sepL (L.set ic _root_.Go.Proofs.YtdncpihaeobaeaaGreat.emp)) 15 ActR.cells (some ⟨g, 0, none⟩) [a] := Seen.pt ActR.len ia (e2.trans hb)
  have hd := doAll_in (h.front ic hic) hs (sk_nil h js hjs) [a] (some ⟨g, 0, none⟩) 1 hk (by
    intro x hx
    obtain rfl : x = a := by simpa using hx
    refine ⟨?_, fun _ => h2, hok⟩
    rw [h1, h3]
    exact Seen.old (.inl rfl)) (by simpa using hN)
  refine hd.mono ?_
  rintro e w' ⟨v, us, rfl, hus, hst⟩
  obtain ⟨u, rfl⟩ : ∃ u, us = [u] := by
    have : us.length = 1 := by
      have := congrArg List.length hus
      rw [List.length_map, ans_len] at this
      exact this
    exact List.length_eq_one_iff.1 this
  obtain ⟨ua, uc, rfl, hu, _⟩ := hst.sl AnsR.len 2 rfl
  have hv : AnsR.val u = (co.do1 a.val).1 := by
    have : [AnsR.val u] = [(co.do1 a.val).1] := hus
    simpa using this
  exact ⟨ua, uc, u, rfl, hu, hv, hst.back (n := ic) hlen⟩
theorem acts_plain {w0 : World} {R : HP} {a : ActR} (h : a.oa = none ∧ a.oc = 0 ∧ a.p.ops = [] ∧ a.i.ev.wf ∧ a.fr = 0) : Seen w0 R 2 Opr.cells a.oa a.p.ops ∧ (a.oa = none → a.oc = 0) ∧ a.val.ok := by
  obtain ⟨h1, h2, h3, h4, h5⟩ := h
  refine ⟨?_, fun _ => h2, ?_⟩
  · rw [h1, h3]
    exact Seen.old (.inl rfl)
  · exact ⟨fun o ho => (by rw [show a.val.p.ops = [] from h3] at ho; cases ho), h4, (by show _ ≤ a.fr; omega), (by show a.fr ≤ _; omega), (by show a.p.ops.length ≤ _; rw [h3]; decide)⟩
end Go.Proofs.YtdncpihaeobaeaaGreat

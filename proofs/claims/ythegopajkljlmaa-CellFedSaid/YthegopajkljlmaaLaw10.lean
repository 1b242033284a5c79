/- Words for the statements of layer 10; RunnerRuns. -/
import Derived.Test.YthegopajkljlmaaKeepPipe
import Derived.Test.YthegopajkljlmaaSame
set_option linter.unusedVariables false
namespace Go.Proofs.Ythegopajkljlmaa
open Go.RowKit Go.Maps
theorem Seen.pt {α : Type} {w0 : World} {K : List HP} {c : Nat} {enc : α → List Value} (hc : ∀ x, (enc x).length = c) {e : TypeId} {g : Nat} {l : List α} (n : Nat) (h : K[n]? = some (Go.Proofs.Ythegopajkljlmaa.pt g (.cells (l.flatMap enc).toArray e (0, 0)))) : Seen w0 (sepL K) c enc (some ⟨g, 0, none⟩) l := by
  intro w' L' m hs hm
  have h1 := hs.split m hm
  refine SlAt.ofRow (e := e) (fr := (0, 0)) hc (h1.blk (L'.length + n) ?_).1
  rw [List.getElem?_append_right (by simp)]
  simpa using h
theorem seen_st {w0 w : World} {L : List HP} (m lt sn : Int) (h : St w0 w L) : Calls Try.prog 29 #[.agg #[.int .i64 m, .int .i64 lt, .int .i64 sn]] w fun e w' => e = .returned (.int .i64 sn) ∧ St w0 w' L :=
  (seen_at m lt sn w).mono (by rintro e w' ⟨rfl, rfl⟩; exact ⟨rfl, (h.alloc _).cut⟩)
theorem mark_st {w0 w : World} {L : List HP} (m lt sn : Int) (h : St w0 w L) : Calls Try.prog 62 #[.agg #[.int .i64 m, .int .i64 lt, .int .i64 sn]] w fun e w' => e = .returned (.int .i64 m) ∧ St w0 w' L :=
  (mark_at m lt sn w).mono (by rintro e w' ⟨rfl, rfl⟩; exact ⟨rfl, (h.alloc _).cut⟩)
theorem sameRw_st {w0 w : World} {L : List HP} (l : List Rw) (a b : Option Addr) (ca cb : Nat) (h : St w0 w L) (ha : SlAt 5 (flat Rw.cells) w a l) (hb : SlAt 5 (flat Rw.cells) w b l) (hlen : l.length ≤ 1099511627776) (hca : l.length ≤ ca) (hcb : l.length ≤ cb) :
    Calls Try.prog 17 #[.slice a l.length ca, .slice b l.length cb] w fun e w' => e = .returned (.bool true) ∧ St w0 w' L :=
  (SameRw_ok l a b ca cb w ha hb hlen hca hcb).mono (by rintro e w' ⟨rfl, hb⟩; exact ⟨rfl, h.kept hb⟩)
def p10 : Pp := ⟨[⟨2, 2⟩], 10, 10, 2, -1, -1⟩
def i10 : List Inp := [⟨false, ⟨3, 0, 5, 1⟩⟩, ⟨false, ⟨12, 0, 1, 1⟩⟩, ⟨true, ⟨10, 0, 0, 0⟩⟩, ⟨false, ⟨4, 0, 9, 1⟩⟩, ⟨true, ⟨20, 0, 0, 0⟩⟩]
def r10 : Rn := ⟨⟨0, 0, 0⟩, p10, []⟩
theorem p10_right : rightPp p10 = true := by decide +kernel
theorem r10_rows : rowsR r10 i10 = [⟨0, 0, 10, 1, 1⟩, ⟨10, 0, 2, 1, 1⟩] := by decide +kernel
theorem r10_late : (afterR r10 i10).c.late = 1 := by decide +kernel
theorem r10_seen : (afterR r10 i10).c.seen = 3 := by decide +kernel
theorem r10_mark : (afterR r10 i10).c.mark = 20 := by decide +kernel
theorem r10_len : (afterR r10 i10).L = [] := by decide +kernel
theorem r10_c : (afterR r10 i10).c = ⟨20, 1, 3⟩ := by
  have h1 := r10_late
  have h2 := r10_seen
  have h3 := r10_mark
  generalize (afterR r10 i10).c = c at *
  obtain ⟨a, b, d⟩ := c
  dsimp only at h1 h2 h3
  subst h1 h2 h3
  rfl
theorem p10_ops : ∀ o ∈ p10.ops, o.wf := by
  intro o ho
  simp [p10] at ho
  subst ho
  exact ⟨by decide, by decide⟩
theorem i10_wf : ∀ i ∈ i10, i.ev.wf := by
  intro i hi
  simp [i10] at hi
  rcases hi with rfl | rfl | rfl | rfl | rfl <;> exact ⟨by decide, by decide, by decide, by decide⟩
end Go.Proofs.Ythegopajkljlmaa

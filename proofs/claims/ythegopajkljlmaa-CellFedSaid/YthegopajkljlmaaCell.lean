/- A cell: its parts, its own form of an input. -/
import Derived.Test.YthegopajkljlmaaQueue
import Derived.Test.YthegopajkljlmaaWholeBare
set_option linter.unusedVariables false
set_option linter.unusedSimpArgs false
namespace Go.Proofs.Ythegopajkljlmaa
open Go.RowKit
/-- A cell: what is left, was spent, was refused; its tenant; its pipe; what waits, what was served. -/
structure Cl where
  left : Int
  spent : Int
  refused : Int
  id : Int
  p : Pp
  q : List Inp
  taken : List Inp
def Cl.rn (c : Cl) : Rn := afterR (newR c.p) c.taken
def Cl.rows (c : Cl) : List Rw := wholeRows c.p c.taken
def Cl.cells (c : Cl) (rb : Nat) (qv rv tv : Value) : Array Value := #[.int .i64 c.left, .int .i64 c.spent, .int .i64 c.refused, qv, .pointer (some ⟨rb, 0, none⟩), .int .i64 c.id, rv, tv]
structure Cl.ok (c : Cl) (N : Nat) : Prop where
  left0 : 0 ≤ c.left
  left1 : c.left ≤ 9223372036854775807
  id0 : 0 ≤ c.id
  id1 : c.id < 8
  wfq : ∀ i ∈ c.q, i.ev.wf
  wft : ∀ i ∈ c.taken, i.ev.wf
  len : c.q.length + c.taken.length ≤ N
  right : rightPp c.p = true
  ops : ∀ o ∈ c.p.ops, o.wf
  few : c.p.ops.length ≤ 6
def clP (cb : Nat) (c : Cl) (N : Nat) : HP := exP fun x : Nat × Value × Value × Value => andP (c.ok N) (sepL [pt cb (.cells (c.cells x.1 x.2.1 x.2.2.1 x.2.2.2) 53 (0, 0)), seeP 5 Inp.cells x.2.1 c.q, rnP x.1 c.rn c.taken.length, ownP 43 5 Rw.cells x.2.2.1 c.rows, ownP 33 5 Inp.cells x.2.2.2 c.taken])
theorem Cl.ok.mono {c : Cl} {N M : Nat} (h : c.ok N) (hM : N ≤ M) : c.ok M := { h with len := Nat.le_trans h.len hM }
theorem cl_open {w0 w : World} {L : List HP} {cb N : Nat} {c : Cl} (h : St w0 w L) (n : Nat) (hn : L[n]? = some (clP cb c N)) : ∃ (rb : Nat) (qv rv tv : Value), c.ok N ∧ St w0 w [pt cb (.cells (c.cells rb qv rv tv) 53 (0, 0)), seeP 5 Inp.cells qv c.q, rnP rb c.rn c.taken.length, ownP 43 5 Rw.cells rv c.rows, ownP 33 5 Inp.cells tv c.taken, sepL (L.set n emp)] := by
  obtain ⟨x, h2⟩ := (h.front n hn).ex 0 rfl
  obtain ⟨hφ, h3⟩ := h2.pure 0 rfl
  exact ⟨x.1, x.2.1, x.2.2.1, x.2.2.2, hφ, h3.ungroup⟩
theorem cl_shut {w0 w : World} {L K : List HP} {cb N n rb : Nat} {qv rv tv : Value} {c : Cl} (hok : c.ok N) (hn : n < L.length)
    (h : St w0 w (pt cb (.cells (c.cells rb qv rv tv) 53 (0, 0)) :: seeP 5 Inp.cells qv c.q :: rnP rb c.rn c.taken.length :: ownP 43 5 Rw.cells rv c.rows :: ownP 33 5 Inp.cells tv c.taken :: sepL (L.set n emp) :: K)) : St w0 w (L.set n (clP cb c N) ++ K) :=
  ((St.group (L := [_, _, _, _, _]) h).imp 0 rfl (X' := clP cb c N) fun h hh => ⟨(rb, qv, rv, tv), hok, hh⟩).back hn
theorem cl_flat {w0 w : World} {L : List HP} {cb N : Nat} {c : Cl} (h : St w0 w L) (n : Nat) (hn : L[n]? = some (clP cb c N)) : ∃ (rb : Nat) (qv rv tv : Value), c.ok N ∧ St w0 w (L.set n emp ++ [pt cb (.cells (c.cells rb qv rv tv) 53 (0, 0)), seeP 5 Inp.cells qv c.q, rnP rb c.rn c.taken.length, ownP 43 5 Rw.cells rv c.rows, ownP 33 5 Inp.cells tv c.taken]) := by
  have hnl := (List.getElem?_eq_some_iff.1 hn).1
  obtain ⟨x, h2⟩ := h.ex n hn
  obtain ⟨hφ, h3⟩ := h2.pure n (by simp [hnl]; rfl)
  have h4 := h3.split n (by simp [hnl]; rfl)
  rw [List.set_set, List.set_set] at h4
  exact ⟨x.1, x.2.1, x.2.2.1, x.2.2.2, hφ, h4⟩
theorem cl_pack {c : Cl} {cb N rb : Nat} {qv rv tv : Value} (hok : c.ok N) (h : Nat → Option Obj) (hh : sepL [pt cb (.cells (c.cells rb qv rv tv) 53 (0, 0)), seeP 5 Inp.cells qv c.q, rnP rb c.rn c.taken.length, ownP 43 5 Rw.cells rv c.rows, ownP 33 5 Inp.cells tv c.taken] h) : clP cb c N h := ⟨(rb, qv, rv, tv), hok, hh⟩
theorem clP_mono {cb N M : Nat} {c : Cl} (hM : N ≤ M) {h : Nat → Option Obj} (hh : clP cb c N h) : clP cb c M h := by
  obtain ⟨x, hok, hs⟩ := hh
  exact ⟨x, hok.mono hM, hs⟩
def lab (id : Int) : Int := IntKind.u64.wrap (2 ^ id.toNat)
def ownI (id : Int) (i : Inp) : Inp := if i.mark then ⟨true, ⟨i.ev.time, 0, 0, 0⟩⟩ else ⟨false, ⟨i.ev.time, i.ev.key, i.ev.value, lab id⟩⟩
def ownB (id : Int) (i : Inp) : Bool := if i.mark then decide (1 ≤ i.ev.time ∧ i.ev.time ≤ 1099512676352) else evRight i.ev.time i.ev.key (lab id)
theorem lab_wf (id : Int) (h0 : 0 ≤ id) (h1 : id < 8) : (Lit.int .u64 (lab id)).wf = true := by
  unfold lab
  obtain rfl | rfl | rfl | rfl | rfl | rfl | rfl | rfl : id = 0 ∨ id = 1 ∨ id = 2 ∨ id = 3 ∨ id = 4 ∨ id = 5 ∨ id = 6 ∨ id = 7 := by omega
  all_goals decide
theorem ownI_wf {id : Int} {i : Inp} (h0 : 0 ≤ id) (h1 : id < 8) (h : i.ev.wf) : (ownI id i).ev.wf := by
  unfold ownI
  split
  · exact ⟨h.1, mark1000_wf.2⟩
  · exact ⟨h.1, h.2.1, h.2.2.1, lab_wf id h0 h1⟩
set_option maxHeartbeats 2000000 in
set_option maxRecDepth 20000 in
theorem own_st {w0 w : World} {L : List HP} {b n : Nat} {v0 v1 v2 v3 v4 v6 v7 : Value} {T : TypeId} {id : Int} (h : St w0 w L) (hn : L[n]? = some (pt b (.cells #[v0, v1, v2, v3, v4, .int .i64 id, v6, v7] T (0, 0)))) (h0 : 0 ≤ id) (h1 : id < 8) (i : Inp) :
    Calls Try.prog 36 #[.pointer (some ⟨b, 0, none⟩), .agg #[.bool i.mark, .int .i64 i.ev.time, .int .i64 i.ev.key, .int .i64 i.ev.value, .int .u64 i.ev.label]] w fun e w' => e = .returned (.tuple #[.agg #[.bool (ownI id i).mark, .int .i64 (ownI id i).ev.time, .int .i64 (ownI id i).ev.key, .int .i64 (ownI id i).ev.value, .int .u64 (ownI id i).ev.label], .bool (ownB id i)]) ∧ St w0 w' L := by
  obtain ⟨im, ⟨t, k, v, l⟩⟩ := i
  obtain ⟨_, _, _, _, _, c5, _⟩ := cells8 (h.blk n hn).1 (Below.refl _ _)
  have hlt := (h.blk n hn).2.2
  have hst := (h.wrap.alloc (.cells #[.bool im, .int .i64 t, .int .i64 k, .int .i64 v, .int .u64 l] 33)).alloc (.cells #[.bool false, .int .i64 0, .int .i64 0, .int .i64 0, .int .u64 0] 33)
  rw [World.size_alloc] at hst
  have hend : ∀ (w' : World) (X Y : HP), St w0 w' [sepL L, X, Y] → St w0 w' L := fun w' X Y h => by simpa using (h.pick [0] (by decide)).unwrap
  have HEND := Lib.hid hend
  have HST := Lib.hid hst
  cases im with
  | true =>
    have hO : ownI id ⟨true, ⟨t, k, v, l⟩⟩ = ⟨true, ⟨t, 0, 0, 0⟩⟩ := rfl
    have hB : ownB id ⟨true, ⟨t, k, v, l⟩⟩ = decide (1 ≤ t ∧ t ≤ 1099512676352) := rfl
    rw [hO, hB]
    have HW := Lib.hid h.wrap
    clear h hn hst hend hO hB HST
    by_cases ht1 : 1 ≤ t
    · by_cases ht2 : t ≤ 1099512676352
      · have hd : decide (1 ≤ t ∧ t ≤ 1099512676352) = true := decide_eq_true ⟨ht1, ht2⟩
        rw [hd]
        clear hd
        go_enter Try.func36, Try.ntmps36
        go_wp2
        exact bodyPost_ret (v := .tuple #[.agg #[.bool true, .int .i64 t, .int .i64 0, .int .i64 0, .int .u64 0], .bool true]) (by simp [results, go_sem]) rfl ⟨rfl, HEND.out _ _ _ ((HW.out.alloc _).alloc _)⟩
      · have hd : decide (1 ≤ t ∧ t ≤ 1099512676352) = false := decide_eq_false (fun h => ht2 h.2)
        rw [hd]
        clear hd
        go_enter Try.func36, Try.ntmps36
        go_wp2
        exact bodyPost_ret (v := .tuple #[.agg #[.bool true, .int .i64 t, .int .i64 0, .int .i64 0, .int .u64 0], .bool false]) (by simp [results, go_sem]) rfl ⟨rfl, HEND.out _ _ _ ((HW.out.alloc _).alloc _)⟩
    · have hd : decide (1 ≤ t ∧ t ≤ 1099512676352) = false := decide_eq_false (fun h => ht1 h.1)
      rw [hd]
      clear hd
      go_enter Try.func36, Try.ntmps36
      go_wp2
      exact bodyPost_ret (v := .tuple #[.agg #[.bool true, .int .i64 t, .int .i64 0, .int .i64 0, .int .u64 0], .bool false]) (by simp [results, go_sem]) rfl ⟨rfl, HEND.out _ _ _ ((HW.out.alloc _).alloc _)⟩
  | false =>
    have hO : ownI id ⟨false, ⟨t, k, v, l⟩⟩ = ⟨false, ⟨t, k, v, lab id⟩⟩ := rfl
    have hB : ownB id ⟨false, ⟨t, k, v, l⟩⟩ = evRight t k (lab id) := rfl
    rw [hO, hB]
    obtain ⟨lb, hlb⟩ : ∃ x, x = lab id := ⟨_, rfl⟩
    rw [← hlb]
    have hwl : IntKind.u64.wrap (2 ^ id.toNat) = lb := hlb.symm
    have HLB := Lib.hid hwl
    have hst2 := (h.wrap.alloc (.cells #[.bool false, .int .i64 t, .int .i64 k, .int .i64 v, .int .u64 lb] 33)).alloc (.cells #[.bool false, .int .i64 0, .int .i64 0, .int .i64 0, .int .u64 0] 33)
    rw [World.size_alloc] at hst2
    have HS2 := Lib.hid hst2.drew
    have HCR := Lib.hid (evRight_st t k v lb hst2.drew)
    have hid8 : ¬ id < 0 := by omega
    clear h hn hst hst2 hend hO hB HST hlb hwl
    go_enter Try.func36, Try.ntmps36
    go_wp2_with fail
    rw [HLB.out]
    obtain ⟨a0, a1, a2, a3, a4⟩ := cells5 (HS2.out.blk 1 rfl).1 (Below.refl _ _)
    go_region_held3 (fun w' => w'.cell? ⟨w.heap.size, 0, none⟩ = some (.bool false) ∧ w'.cell? ⟨w.heap.size, 1, none⟩ = some (.int .i64 t) ∧ w'.cell? ⟨w.heap.size, 2, none⟩ = some (.int .i64 k) ∧ w'.cell? ⟨w.heap.size, 3, none⟩ = some (.int .i64 v) ∧ w'.cell? ⟨w.heap.size, 4, none⟩ = some (.int .u64 lb)) (first | (with_reducible exact ⟨s0, s1, s2, s3, s4⟩) | (with_reducible exact ⟨k0, k1, k2, k3, k4⟩) | (with_reducible exact ⟨a0, a1, a2, a3, a4⟩))
      (first | (go_at_call 47; (with_reducible refine HCR.out.mono ?_); rintro e w2 ⟨rfl, h2⟩; obtain ⟨k0, k1, k2, k3, k4⟩ := cells5 (h2.blk 1 rfl).1 (Below.refl _ _); have hs5 := (((((h2.set 2 rfl 0 (.bool false)).set 2 rfl 1 (.int .i64 t)).set 2 rfl 2 (.int .i64 k)).set 2 rfl 3 (.int .i64 v)).set 2 rfl 4 (.int .u64 lb)); obtain ⟨s0, s1, s2, s3, s4⟩ := cells5 (hs5.blk 1 rfl).1 (Below.refl _ _); obtain ⟨q2, z2⟩ := blkCells (h2.blk 2 rfl).1; have hg2 := (h2.blk 2 rfl).2.2; have H5 := Lib.hid hs5; clear h2 hs5))
    all_goals
      go_wp2
      exact bodyPost_ret (v := .tuple #[.agg #[.bool false, .int .i64 t, .int .i64 k, .int .i64 v, .int .u64 lb], .bool (evRight t k lb)]) (by simp [results, go_sem, q2, hg2]) rfl ⟨rfl, HEND.out _ _ _ H5.out⟩
end Go.Proofs.Ythegopajkljlmaa

/- Walks of cordonkeep.Inputs and cordonkeep.Pipe. -/
import Derived.Test.YthegopajkljlmaaTake
import Derived.Test.YthegopajkljlmaaWithin
set_option linter.unusedVariables false
namespace Go.Proofs.Ythegopajkljlmaa
open Go.RowKit Go.Maps
theorem inpElem : Elem Try.prog 48 33 5 Inp.cells :=
  ⟨Inp.len, by decide, Inp.one, Try.underlying48, by
    obtain ⟨i, h1, h2, h3, h4⟩ := info_parts (P := Try.prog) (e := 33) (z := .agg #[.bool false, .int .i64 0, .int .i64 0, .int .i64 0, .int .u64 0]) (size := 5) (bytes := 40) (by kernel_rfl)
    exact ⟨i, _, h1, h2, h3, by omega, rfl⟩⟩
/-- Numbers of which an input is made. -/
structure InQ where
  time : Int
  key : Int
  value : Int
  mark : Int
def InQ.cells (q : InQ) : List Value := [.int .i64 q.time, .int .i64 q.key, .int .i64 q.value, .int .i64 q.mark]
def InQ.wf (q : InQ) : Prop := (Lit.int .i64 q.time).wf = true ∧ (Lit.int .i64 q.key).wf = true ∧ (Lit.int .i64 q.value).wf = true ∧ (Lit.int .i64 q.mark).wf = true
def InQ.zero : InQ := ⟨0, 0, 0, 0⟩
theorem InQ.len (i : InQ) : i.cells.length = 4 := rfl
theorem SlAt.iqAt {w : World} {a : Option Addr} {l : List InQ} (h : SlAt 4 (flat InQ.cells) w a l) (k : Nat) (hk : k < l.length) :
    ∃ b o, a = some ⟨b, o, none⟩ ∧ b < w.heap.size ∧ w.cell? ⟨b, o + k * 4, none⟩ = some (.int .i64 (l[k]?.getD InQ.zero).time) ∧ w.cell? ⟨b, o + k * 4 + 1, none⟩ = some (.int .i64 (l[k]?.getD InQ.zero).key) ∧ w.cell? ⟨b, o + k * 4 + 2, none⟩ = some (.int .i64 (l[k]?.getD InQ.zero).value) ∧
      w.cell? ⟨b, o + k * 4 + 3, none⟩ = some (.int .i64 (l[k]?.getD InQ.zero).mark) := by
  rcases h with rfl | ⟨b, o, rfl, hlt, h⟩
  · simp at hk
  · obtain ⟨cs, h1, h2, h3⟩ := h k hk
    rw [List.getElem?_eq_getElem hk]
    unfold flat at h3
    subst h3
    exact ⟨b, o, rfl, hlt, h2 0 (by omega), h2 1 (by omega), h2 2 (by omega), h2 3 (by omega)⟩
def markB (n : Int) : Bool := bits .and .i64 n 3 == 3
def labelOf (n : Int) : Int := IntKind.u64.wrap (2 ^ (within n 0 7).toNat)
def inpOf (q : InQ) : Inp := if markB q.mark then ⟨true, ⟨within q.time 0 160, 0, 0, 0⟩⟩ else ⟨false, ⟨within q.time 0 120, within q.key 0 3, within q.value (-50) 50, labelOf q.mark⟩⟩
def inputsOf (l : List InQ) : List Inp := (l.take 25).map inpOf
theorem Within_at (n lo hi : Int) (w : World) (hn0 : -9223372036854775808 ≤ n) (hn1 : n ≤ 9223372036854775807) (h : lo ≤ hi) (hlo : -1000000000000000 ≤ lo) (hhi : hi ≤ 1000000000000000) :
    Calls Try.prog 21 #[.int .i64 n, .int .i64 lo, .int .i64 hi] w fun e w' => e = .returned (.int .i64 (within n lo hi)) ∧ w = w' :=
  (Within_any n lo hi w hn0 hn1 h hlo hhi).mono fun _ _ h => ⟨h.1, h.2.symm⟩
set_option maxHeartbeats 2000000 in
set_option maxRecDepth 20000 in
theorem inputs_st {w0 w : World} {L : List HP} (h : St w0 w L) (a : Option Addr) (cap : Nat) (l : List InQ) (hl : Seen w0 (sepL L) 4 InQ.cells a l) (hw : ∀ q ∈ l, q.wf) (hmx : l.length ≤ maxLen) :
    Calls Try.prog 22 #[.slice a l.length cap] w fun e w' => ∃ v, e = .returned v ∧ St w0 w' (L ++ [ownP 33 5 Inp.cells v (inputsOf l)]) := by
  unfold maxLen at hmx
  have hst := h.wrap.nil 33 5 Inp.cells
  have HS := Lib.hid hst
  have HL := Lib.hid hl
  have HW := Lib.hid hw
  clear h hl hw hst
  go_enter Try.func22, Try.ntmps22
  go_wp2_with fail
  go_loopw [3, 4] (fun v iv wr => ∃ k : Nat, k ≤ l.length ∧ k ≤ 25 ∧ iv = .int .i64 k ∧ St w0 wr [sepL L, ownP 33 5 Inp.cells v ((l.take k).map inpOf)]) (fun _ iv _ => 25 - (intOf iv).toNat)
  case atStart => exact ⟨0, by omega, by omega, rfl, HS.out⟩
  case round =>
    obtain ⟨k, hk, hk25, rfl, hst⟩ := hrel
    by_cases hlt : (k : Int) < l.length
    · by_cases h25 : (k : Int) < 25
      · have hkn : k < l.length := by omega
        obtain ⟨b, o, rfl, hbl, c0, c1, c2, c3⟩ := (HL.out wr _ 0 hst rfl).iqAt k hkn
        have hqw := HW.out _ (List.getElem_mem hkn)
        have hmp : (l.take (k + 1)).map inpOf = (l.take k).map inpOf ++ [inpOf l[k]] := by rw [List.take_add_one, List.getElem?_eq_getElem hkn, List.map_append]; rfl
        have hlen : ((l.take k).map inpOf).length < 1099511627776 := by simp; omega
        rw [List.getElem?_eq_getElem hkn] at c0 c1 c2 c3
        simp only [Option.getD_some] at c0 c1 c2 c3
        generalize l[k] = q at *
        obtain ⟨qt, qk, qv, qm⟩ := q
        dsimp only at c0 c1 c2 c3
        generalize (l.take k).map inpOf = out at *
        have HMP := Lib.hid hmp
        have hr1 := i64_range hqw.1
        have hr2 := i64_range hqw.2.1
        have hr3 := i64_range hqw.2.2.1
        have hr4 := i64_range hqw.2.2.2
        dsimp only at hr1 hr2 hr3 hr4
        have HQW := Lib.hid hqw
        have HLEN := Lib.hid hlen
        have HST := Lib.hid hst
        clear hmp hqw hlen hst
        cases hm : markB qm with
        | true =>
          have HM := Lib.hid hm
          unfold markB at hm
          have hmi : inpOf ⟨qt, qk, qv, qm⟩ = ⟨true, ⟨within qt 0 160, 0, 0, 0⟩⟩ := by unfold inpOf; rw [if_pos HM.out]
          rw [hmi] at HMP
          clear hmi
          have HST2 := Lib.hid (HST.out.alloc (.cells #[.int .i64 qt, .int .i64 qk, .int .i64 qv, .int .i64 qm] 94))
          go_wp2_with (first
            | (go_at_call 21; refine (Within_at _ _ _ _ (by omega) (by omega) (by omega) (by omega) (by omega)).mono ?_; rintro e wz ⟨rfl, rfl⟩)
            | (at_builtin; refine wpList_push_st inpElem rfl (HST2.out.alloc _) 1 rfl _ _ rfl rfl _ (⟨true, ⟨within qt 0 160, 0, 0, 0⟩⟩ : Inp) rfl (new_at _ _ _ (by simp)) HLEN.out ?_; intro v2 w2 hst2 _; have HS2 := Lib.hid hst2; clear hst2))
          go_roundw
          case rel => exact ⟨k + 1, by omega, by omega, by go_num, by rw [HMP.out]; exact HS2.out.pick [0, 1] (by decide)⟩
          case measure => simp [intOf]; omega
        | false =>
          have HM := Lib.hid hm
          unfold markB at hm
          have hmi : inpOf ⟨qt, qk, qv, qm⟩ = ⟨false, ⟨within qt 0 120, within qk 0 3, within qv (-50) 50, labelOf qm⟩⟩ := by unfold inpOf; rw [if_neg (by rw [HM.out]; decide)]
          rw [hmi] at HMP
          clear hmi
          have hw7 := within_range qm 0 7 (by omega)
          go_wp2_with fail
          refine wp_at (HST.out.alloc (.cells #[.int .i64 qt, .int .i64 qk, .int .i64 qv, .int .i64 qm] 94)) ?_
          intro w1 hst1
          generalize wr.heap.size = g at *
          obtain ⟨q1, _⟩ := blkCells (hst1.blk 2 rfl).1
          have hg1 : g < w1.heap.size := (hst1.blk 2 rfl).2.2
          have e0 := q1 0
          have e1 := q1 1
          have e2 := q1 2
          have e3 := q1 3
          simp at e0 e1 e2 e3
          have HS1 := Lib.hid hst1
          clear hst1 q1 HST
          go_region_held3 (fun w' => w'.cell? ⟨g, 0, none⟩ = some (.int .i64 qt) ∧ w'.cell? ⟨g, 1, none⟩ = some (.int .i64 qk) ∧ w'.cell? ⟨g, 2, none⟩ = some (.int .i64 qv) ∧ w'.cell? ⟨g, 3, none⟩ = some (.int .i64 qm))
            (first | exact ⟨k0, k1, k2, k3⟩ | exact ⟨(Below.cell (B := w1.heap.size) (w := w1) (by go_grown) hg1).trans e0, (Below.cell (B := w1.heap.size) (w := w1) (by go_grown) hg1).trans e1, (Below.cell (B := w1.heap.size) (w := w1) (by go_grown) hg1).trans e2, (Below.cell (B := w1.heap.size) (w := w1) (by go_grown) hg1).trans e3⟩)
            (first
              | (go_at_call 21; refine (Within_at _ _ _ _ (by omega) (by omega) (by omega) (by omega) (by omega)).mono ?_; rintro e wz ⟨rfl, rfl⟩)
              | (refine step_append_st inpElem rfl (HS1.out.alloc (.cells #[.bool false, .int .i64 (within qt 0 120), .int .i64 (within qk 0 3), .int .i64 (within qv (-50) 50), .int .u64 (labelOf qm)] 33)).drew 1 rfl _ _ rfl rfl (some ⟨w1.heap.size, 0, none⟩) 1 [⟨false, ⟨within qt 0 120, within qk 0 3, within qv (-50) 50, labelOf qm⟩⟩] rfl (by simp) (SlAt.one Inp.len (new_drew _ _ _ rfl)) ?_ ?_; (have := HLEN.out; simp; omega); intro v2 w2 hst2 _; have HS2 := Lib.hid hst2; obtain ⟨q2, _⟩ := blkCells (hst2.blk 2 rfl).1; have k0 := q2 0; have k1 := q2 1; have k2 := q2 2; have k3 := q2 3; simp at k0 k1 k2 k3; clear hst2 q2))
          go_wp2
          go_roundw
          case rel => exact ⟨k + 1, by omega, by omega, by go_num, by rw [HMP.out]; exact HS2.out.pick [0, 1] (by decide)⟩
          case measure => simp [intOf]; omega
      · have HST := Lib.hid hst
        clear hst
        go_wp2
        go_ret
        refine ⟨_, rfl, ?_⟩
        obtain rfl : k = 25 := by omega
        exact HST.out.unwrap
    · have HST := Lib.hid hst
      clear hst
      go_wp2
      go_ret
      refine ⟨_, rfl, ?_⟩
      obtain rfl : k = l.length := by omega
      have e : inputsOf l = (l.take l.length).map inpOf := by unfold inputsOf; rw [List.take_length, List.take_of_length_le hk25]
      rw [e]
      exact HST.out.unwrap
end Go.Proofs.Ythegopajkljlmaa

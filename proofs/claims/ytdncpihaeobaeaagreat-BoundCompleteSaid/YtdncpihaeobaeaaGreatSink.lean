/- Walks of package sink. -/
import Derived.Test.YtdncpihaeobaeaaGreatReach
import Derived.Test.YtdncpihaeobaeaaGreatCoreLaw2
set_option linter.unusedVariables false
set_option linter.unusedSimpArgs false
namespace Go.Proofs.YtdncpihaeobaeaaGreat
open Go.RowKit
theorem Kept.front {w0 w' : World} {L K : List HP} {X : HP} {n : Nat} {φ : World → Prop} (h : Kept w0 L n φ) (hn : n < L.length) (hs : St w0 w' (X :: sepL (L.set n emp) :: K)) : φ w' :=
  h w' _ (hs.back hn) fun i hi hne => by rw [List.getElem?_append_left (by simpa using hi), List.getElem?_set, if_neg (by omega)]
theorem below_dr {B : Nat} {a w : World} (h : Below B a w) (n : Nat) : Below B a (w.drewN n) := h.trans ⟨rfl, rfl, rfl, Nat.le_refl _, fun _ _ => rfl⟩
theorem sinkNew_any (s : Sk) (w : World) : Calls Tryz.prog 50 #[.agg #[.int .u64 s.fr, .int .u64 s.dst, .int .i64 s.least, .int .i64 s.agg, .int .i64 s.ticks]] w fun x w' => x = .returned (.agg #[.int .i64 0, .int .i64 s.agg, .int .i64 0, .int .u64 0]) ∧ Below w.heap.size w w' := by
  go_enter Tryz.func50, Tryz.ntmps50
  go_wp2_with (go_at_call 70; (with_reducible refine (aggNew_any _ _).mono ?_); rintro e w1 ⟨rfl, rfl⟩)
  exact bodyPost_ret (v := .agg #[.int .i64 0, .int .i64 s.agg, .int .i64 0, .int .u64 0]) (by simp [results, go_sem]) rfl ⟨rfl, by go_grown⟩
theorem epoch_any (s : Sk) (n : Int) (w : World) (h0 : 1 ≤ n) (h1 : n ≤ 4611686018427387904) (h2 : 1 ≤ s.ticks) : Calls Tryz.prog 97 #[.agg #[.int .u64 s.fr, .int .u64 s.dst, .int .i64 s.least, .int .i64 s.agg, .int .i64 s.ticks], .int .i64 n] w fun x w' => x = .returned (if epochB s n then .tuple #[.int .i64 (n / s.ticks - 1), .bool true] else .tuple #[.int .i64 (-1), .bool false]) ∧ Below w.heap.size w w' := by
  obtain ⟨f, t, l, k, m⟩ := s
  dsimp only at h2 ⊢
  have hm := Int.emod_nonneg n (show m ≠ 0 by omega)
  have hm2 := Int.emod_lt_of_pos n (show 0 < m by omega)
  have hq0 : 0 ≤ n / m := Int.ediv_nonneg (by omega) (by omega)
  have hq1 : n / m ≤ n := Int.ediv_le_self _ (by omega)
  have he : epochB ⟨f, t, l, k, m⟩ n = (n % m == 0) := by unfold epochB; simp [h0, h2]
  rw [he]
  clear he
  by_cases hz : n % m = 0
  · have hb : (n % m == 0) = true := by simp [hz]
    have hnb : (n % m != 0) = false := by simp [hz]
    rw [hb]
    go_enter Tryz.func97, Tryz.ntmps97
    go_wp2
    exact bodyPost_ret (v := .tuple #[.int .i64 (n / m - 1), .bool true]) (by simp [results, go_sem]) rfl ⟨rfl, (Below.refl _ w).alloc (Nat.le_refl _) _⟩
  · have hb : (n % m == 0) = false := by simp [hz]
    have hnb : (n % m != 0) = true := by simp [hz]
    rw [hb]
    go_enter Tryz.func97, Tryz.ntmps97
    go_wp2
    exact bodyPost_ret (v := .tuple #[.int .i64 (-1), .bool false]) (by simp [results, go_sem]) rfl ⟨rfl, (Below.refl _ w).alloc (Nat.le_refl _) _⟩
theorem tell_any (p : Pot) (s : Sk) (id ep : Int) (w : World) : Calls Tryz.prog 98 #[.agg #[.int .i64 p.count, .int .i64 p.kind, .int .i64 p.value, .int .u64 p.who], .agg #[.int .u64 s.fr, .int .u64 s.dst, .int .i64 s.least, .int .i64 s.agg, .int .i64 s.ticks], .int .i64 id, .int .i64 ep] w fun x w' => x = .returned (.agg #[.int .i64 (tellP p s id ep).sink, .int .i64 (tellP p s id ep).epoch, .int .i64 (tellP p s id ep).value, .bool (tellP p s id ep).hidden]) ∧ Below w.heap.size w w' := by
  obtain ⟨f, t, l, k, m⟩ := s
  obtain ⟨pc, pk, pv, pw⟩ := p
  unfold tellP
  dsimp only
  have HC := Lib.hid fun w' => count_any pw w'
  by_cases hlt : popc pw < l
  · rw [if_pos hlt]
    generalize popc pw = pp at *
    go_enter Tryz.func98, Tryz.ntmps98
    go_wp2_with fail
    go_quiet ((refine (HC.out _).mono ?_; rintro e w1 ⟨rfl, rfl⟩; exact ⟨rfl, _, rfl⟩))
    go_wp2
    exact bodyPost_ret (v := .agg #[.int .i64 id, .int .i64 ep, .int .i64 0, .bool true]) (by simp [results, go_sem]) rfl ⟨rfl, by go_grown; exact below_dr (by go_grown) _⟩
  · rw [if_neg hlt]
    generalize popc pw = pp at *
    go_enter Tryz.func98, Tryz.ntmps98
    go_wp2_with fail
    go_quiet ((refine (HC.out _).mono ?_; rintro e w1 ⟨rfl, rfl⟩; exact ⟨rfl, _, rfl⟩))
    go_wp2
    exact bodyPost_ret (v := .agg #[.int .i64 id, .int .i64 ep, .int .i64 pv, .bool false]) (by simp [results, go_sem]) rfl ⟨rfl, by go_grown; exact below_dr (by go_grown) _⟩
theorem potInfo : ∃ i, Tryz.prog.info? 125 = some i ∧ i.zero = some (.agg #[.int .i64 0, .int .i64 0, .int .i64 0, .int .u64 0]) ∧ i.size = 4 ∧ i.bytes = 32 := info_parts (by kernel_rfl)
theorem skInfo : ∃ i, Tryz.prog.info? 113 = some i ∧ i.zero = some (.agg #[.int .u64 0, .int .u64 0, .int .i64 0, .int .i64 0, .int .i64 0]) ∧ i.size = 5 ∧ i.bytes = 40 := info_parts (by kernel_rfl)
theorem relInfo : ∃ i, Tryz.prog.info? 42 = some i ∧ i.zero = some (.agg #[.int .i64 0, .int .i64 0, .int .i64 0, .bool false]) ∧ i.size = 4 ∧ i.bytes = 32 := info_parts (by kernel_rfl)
theorem potElem : Elem Tryz.prog 117 125 4 Pot.cells :=
  ⟨Pot.len, by decide, Pot.one, Tryz.underlying117, by
    obtain ⟨i, h1, h2, h3, h4⟩ := potInfo
    exact ⟨i, _, h1, h2, h3, by omega, rfl⟩⟩
theorem skElem : Elem Tryz.prog 26 113 5 Sk.cells :=
  ⟨Sk.len, by decide, Sk.one, Tryz.underlying26, by
    obtain ⟨i, h1, h2, h3, h4⟩ := skInfo
    exact ⟨i, _, h1, h2, h3, by omega, rfl⟩⟩
theorem relElem : Elem Tryz.prog 43 42 4 Rel.cells :=
  ⟨Rel.len, by decide, Rel.one, Tryz.underlying43, by
    obtain ⟨i, h1, h2, h3, h4⟩ := relInfo
    exact ⟨i, _, h1, h2, h3, by omega, rfl⟩⟩
theorem set_getE {α : Type} {l : List α} {i : Nat} (hi : i < l.length) (x : α) : (l.set i x)[i]'(by simpa using hi) = x := by simp
theorem ownCells {α : Type} {e : TypeId} {c : Nat} {enc : α → List Value} (hc : ∀ x, (enc x).length = c) {b k cap : Nat} {l : List α} {w0 w : World} {L : List HP} (h : St w0 w L) (n : Nat) (hn : L[n]? = some (ownP e c enc (.slice (some ⟨b, 0, none⟩) k cap) l)) (i : Nat) (hi : i < l.length) (j : Nat) (hj : j < c) : w.cell? ⟨b, i * c + j, none⟩ = (enc l[i])[j]? := by
  rcases h.slOf hc n hn with rfl | ⟨b', o, he, hlt, hh⟩
  · simp at hi
  · cases he
    obtain ⟨cs, h1, h2, rfl⟩ := hh i hi
    have := h2 j hj
    rwa [Nat.zero_add] at this
theorem potWho {w0 w : World} {L : List HP} (h : St w0 w L) (n : Nat) {pb k cap : Nat} {pots : List Pot} (hn : L[n]? = some (ownP 125 4 Pot.cells (.slice (some ⟨pb, 0, none⟩) k cap) pots)) (i : Nat) (hi : i < pots.length) (p : Int) (hp : pots[i].who = p) : w.cell? ⟨pb, i * 4 + 3, none⟩ = some (.int .u64 p) := by
  have e := ownCells Pot.len h n hn i hi 3 (by decide)
  subst hp
  exact e
/-- One value more in a pot that lies among others. -/
theorem potAdd_st {w0 w : World} {L : List HP} (h : St w0 w L) (n : Nat) {pb k cap : Nat} {pots : List Pot} (hn : L[n]? = some (ownP 125 4 Pot.cells (.slice (some ⟨pb, 0, none⟩) k cap) pots)) (i : Nat) (hi : i < pots.length) (p : Pot) (hp : pots[i] = p) (x : Int) (m : Nat) {g : Nat} (hm : L[m]? = some (pt g (.cells #[.int .i64 x] 3 (0, 0)))) :
    Calls Tryz.prog 131 #[.pointer (some ⟨pb, i * 4, none⟩), .slice (some ⟨g, 0, none⟩) 1 1] w fun e w' => e = .returned (.tuple #[]) ∧ St w0 w' (L.set n (ownP 125 4 Pot.cells (.slice (some ⟨pb, 0, none⟩) k cap) (pots.set i ⟨wrap64 (p.count + 1), p.kind, takeV p.kind p.count p.value x 1, p.who⟩))) := by
  subst hp
  have hnl := (List.getElem?_eq_some_iff.1 hn).1
  have c0 := ownCells Pot.len h n hn i hi 0 (by decide)
  have c1 := ownCells Pot.len h n hn i hi 1 (by decide)
  have c2 := ownCells Pot.len h n hn i hi 2 (by decide)
  refine (add_one_w pb (i * 4) _ _ _ x g w c0 c1 c2 (h.ownFree n hn _) (h.ownFree n hn _) (cells1 (h.blk m hm).1 (Below.refl _ _))).mono ?_
  rintro e w' ⟨rfl, rfl⟩
  refine ⟨rfl, ?_⟩
  have h1 := h.ownSet Pot.len n hn i 2 hi (by decide) ⟨pots[i].count, pots[i].kind, takeV pots[i].kind pots[i].count pots[i].value x 1, pots[i].who⟩ _ rfl
  have h2 := h1.ownSet Pot.len n (set_get hnl _) i 0 (by simpa using hi) (by decide) ⟨wrap64 (pots[i].count + 1), pots[i].kind, takeV pots[i].kind pots[i].count pots[i].value x 1, pots[i].who⟩ (.int .i64 (wrap64 (pots[i].count + 1))) (by simp [Pot.cells])
  simpa [List.set_set] using h2
set_option maxHeartbeats 4000000 in
set_option maxRecDepth 20000 in
theorem give_st {w0 w : World} {L : List HP} (h : St w0 w L) (n : Nat) {pb k cap : Nat} {pots : List Pot} (hn : L[n]? = some (ownP 125 4 Pot.cells (.slice (some ⟨pb, 0, none⟩) k cap) pots)) (i : Nat) (hi : i < pots.length) (s : Sk) (t : Int) (ra : Option Addr) (rc : Nat) (rows : List Rw)
    (hr : Kept w0 L n fun w => SlAt 5 (flat Rw.cells) w ra rows) (hlen : rows.length ≤ 1099511627776) :
    Calls Tryz.prog 122 #[.pointer (some ⟨pb, i * 4, none⟩), .agg #[.int .u64 s.fr, .int .u64 s.dst, .int .i64 s.least, .int .i64 s.agg, .int .i64 s.ticks], .int .i64 t, .slice ra rows.length rc] w fun e w' => (∃ m, e = .returned (.int .i64 m)) ∧ St w0 w' (L.set n (ownP 125 4 Pot.cells (.slice (some ⟨pb, 0, none⟩) k cap) (pots.set i (giveP s t pots[i] rows)))) := by
  have hnl := (List.getElem?_eq_some_iff.1 hn).1
  have hst := (h.front n hn).alloc (.cells #[.int .u64 s.fr, .int .u64 s.dst, .int .i64 s.least, .int .i64 s.agg, .int .i64 s.ticks] 113)
  generalize hg : w.heap.size = g at hst
  have HK := Lib.hid (fun (w' : World) (X : HP) (K : List HP) (hs : St w0 w' (X :: sepL (L.set n emp) :: K)) => hr.front hnl hs)
  have HEND := Lib.hid (fun (w' : World) (X : HP) (K : List HP) (hs : St w0 w' (X :: sepL (L.set n emp) :: K)) => (hs.back hnl).cut)
  have hp0 : pots = pots.set i pots[i] := by simp
  rw [hp0] at hst
  have HS := Lib.hid hst
  obtain ⟨p0, hpe⟩ : ∃ p, p = pots[i] := ⟨_, rfl⟩
  rw [← hpe] at HS ⊢
  clear h hn hst hr hp0 hpe
  go_enter Tryz.func122, Tryz.ntmps122
  go_wp2_with fail
  subst hg
  go_loopw [9, 14] (fun mv iv wr => ∃ (m : Int) (q : Nat), q ≤ rows.length ∧ mv = .int .i64 m ∧ iv = .int .i64 q ∧ St w0 wr [ownP 125 4 Pot.cells (.slice (some ⟨pb, 0, none⟩) k cap) (pots.set i (giveP s t p0 (rows.take q))), sepL (L.set n emp), pt w.heap.size (.cells #[.int .u64 s.fr, .int .u64 s.dst, .int .i64 s.least, .int .i64 s.agg, .int .i64 s.ticks] 113 (0, 0))]) (fun _ iv _ => rows.length - (intOf iv).toNat)
  case atStart => exact ⟨0, 0, by omega, rfl, rfl, HS.out⟩
  case round =>
    obtain ⟨m, q, hq, rfl, rfl, hst⟩ := hrel
    by_cases hlt : (q : Int) < rows.length
    · have hqn : q < rows.length := by omega
      obtain ⟨b, o, rfl, hbl, c0, c1, c2, c3, c4⟩ := (HK.out wr _ _ hst).rwAt q hqn
      have hgp : giveP s t p0 (rows.take (q + 1)) = give1 s t (giveP s t p0 (rows.take q)) rows[q] := by
        unfold giveP
        rw [List.take_add_one, List.getElem?_eq_getElem hqn, List.foldl_append]
        rfl
      rw [List.getElem?_eq_getElem hqn] at c0 c1 c2 c3 c4
      simp only [Option.getD_some] at c0 c1 c2 c3 c4
      generalize rows[q] = r at *
      generalize giveP s t p0 (rows.take q) = p at *
      have HGP := Lib.hid hgp
      clear hgp
      obtain ⟨s0, s1, s2, s3, s4⟩ := cells5 (hst.blk 2 rfl).1 (Below.refl _ _)
      have hgs := (hst.blk 2 rfl).2.2
      have HST := Lib.hid hst
      have HC1 := Lib.hid fun w' => gives_any r s w'
      clear hst
      cases hh : hasB s.fr t with
      | false =>
        have HH := Lib.hid hh
        clear hh
        go_wp2_with (first
          | (go_at_call 124; (with_reducible refine (has_any _ _ _).mono ?_); rintro e w1 ⟨rfl, rfl⟩; rw [HH.out]))
        have hgn : give1 s t p r = p := by unfold give1; rw [HH.out]; rfl
        go_roundw
        case rel => exact ⟨m, q + 1, by omega, rfl, by go_num, by rw [HGP.out, hgn]; exact (HST.out.alloc _).cut (K := [_])⟩
        case measure => simp [intOf]; omega
      | true =>
        have HH := Lib.hid hh
        clear hh
        cases hb : belowB r.label s.fr with
        | false =>
          have HB := Lib.hid hb
          clear hb
          go_wp2_with (first
            | (go_at_call 124; (with_reducible refine (has_any _ _ _).mono ?_); rintro e w1 ⟨rfl, rfl⟩; rw [HH.out])
            | (go_at_call 139; (with_reducible refine (HC1.out _).mono ?_); rintro e w1 ⟨rfl, hb1⟩; rw [HB.out]; have HB1 := Lib.hid hb1; clear hb1))
          have hgn : give1 s t p r = p := by unfold give1; rw [HH.out, HB.out]; rfl
          go_roundw
          case rel => exact ⟨m, q + 1, by omega, rfl, by go_num, by rw [HGP.out, hgn]; exact ((HST.out.alloc _).kept HB1.out).cut (K := [_])⟩
          case measure => simp [intOf]; omega
        | true =>
          have HB := Lib.hid hb
          clear hb
          go_wp2_with (first
            | (go_at_call 124; (with_reducible refine (has_any _ _ _).mono ?_); rintro e w1 ⟨rfl, rfl⟩; rw [HH.out])
            | (go_at_call 139; (with_reducible refine (HC1.out _).mono ?_); rintro e w1 ⟨rfl, hb1⟩; rw [HB.out]; have HB1 := Lib.hid hb1; clear hb1))
          have hgy : give1 s t p r = ⟨wrap64 (p.count + 1), p.kind, takeV p.kind p.count p.value r.value 1, bits .or .u64 (bits .or .u64 0 p.who) (bits .or .u64 0 (bitOf t))⟩ := by unfold give1; rw [HH.out, HB.out]; rfl
          have HGY := Lib.hid hgy
          have hs1 := (HST.out.alloc (.cells #[.int .i64 r.start, .int .i64 r.key, .int .i64 r.value, .int .i64 r.count, .int .u64 r.label] 55)).kept HB1.out
          obtain ⟨_, _, b2, _, _⟩ := cells5 (hs1.blk 3 rfl).1 (Below.refl _ _)
          have hbx := (hs1.blk 3 rfl).2.2
          have HA := Lib.hid (potAdd_st (hs1.alloc (.cells #[.int .i64 r.value] 3)).drew 0 rfl i (by simpa using hi) p (by simp) r.value 4 rfl)
          clear hgy hs1 HST HC1
          go_region_held3 (fun w' => w'.cell? ⟨wr.heap.size, 2, none⟩ = some (.int .i64 r.value)) (first | (with_reducible exact d2) | exact (Below.cell (B := w1.heap.size) (w := w1) (by go_grown) hbx).trans b2)
            (first
              | (go_at_call 131; (with_reducible refine HA.out.mono ?_); rintro e w2 ⟨rfl, h2⟩; obtain ⟨_, _, d2, _, _⟩ := cells5 (h2.blk 3 rfl).1 (Below.refl _ _); have HS2 := Lib.hid (h2.cut (L := [_, _, _]) (K := [_, _])); clear h2 HA))
          have hs2 := HS2.out
          rw [show (wrap64 (p.count + 1)) = (wrap64 (p.count + 1)) from rfl, List.set_set] at hs2
          obtain ⟨p2, hp2⟩ : ∃ x : Pot, x = ⟨wrap64 (p.count + 1), p.kind, takeV p.kind p.count p.value r.value 1, p.who⟩ := ⟨_, rfl⟩
          rw [← hp2] at hs2
          have hwho : ((pots.set i p2)[i]'(by simpa using hi)).who = p.who := by rw [set_getE hi, hp2]
          have e3 := potWho hs2 0 rfl i (by simpa using hi) p.who hwho
          have f3 := hs2.ownFree 0 rfl (i * 4 + 3)
          have hpb : pb < w2.heap.size := lt_of_cell e3
          have hsa := (hs2.alloc (.cells #[.int .i64 t] 3))
          have hsb := (hsa.alloc (.cells #[.int .u64 p.who, .int .u64 (bits .or .u64 0 (bitOf t))] 53)).drew
          have HO := Lib.hid (of_one t _ _ (cells1 (hsa.drew.blk 3 rfl).1 (Below.refl _ _)))
          obtain ⟨j0, j1⟩ := cells2 (hsb.blk 4 rfl).1 (Below.refl _ _)
          have hj := join_two p.who (bits .or .u64 0 (bitOf t)) _ _ j0 j1
          rw [World.size_alloc] at hj
          have HJ := Lib.hid hj
          have e3a := potWho hsa.drew 0 rfl i (by simpa using hi) p.who hwho
          have e3d := potWho hs2.drew 0 rfl i (by simpa using hi) p.who hwho
          have f3b := hsb.ownFree 0 rfl (i * 4 + 3)
          have hpb3 : pb < w2.heap.size + 2 := by omega
          clear j0 j1 hsa hsb hj hwho
          have HS3 := Lib.hid hs2
          have HP2 := Lib.hid hp2
          clear HS2 hs2 hp2
          go_wp2_with fail
          go_region_with
            (first
              | (go_at_call 140; (with_reducible refine HO.out.mono ?_); rintro e w3 ⟨rfl, rfl⟩)
              | (go_at_call 116; (with_reducible refine HJ.out.mono ?_); rintro e w3 ⟨rfl, rfl⟩))
          all_goals
            go_wp2
            go_roundw
            case rel =>
              refine ⟨wrap64 (m + 1), q + 1, by omega, rfl, by go_num, ?_⟩
              rw [HGP.out, HGY.out]
              have h1 := HS3.out.ownSet Pot.len 0 rfl i 3 (by simpa using hi) (by decide) ⟨p2.count, p2.kind, p2.value, bits .or .u64 (bits .or .u64 0 p.who) (bits .or .u64 0 (bitOf t))⟩ (.int .u64 (bits .or .u64 (bits .or .u64 0 p.who) (bits .or .u64 0 (bitOf t)))) (by rw [set_getE hi]; rfl)
              rw [List.set_set, HP2.out] at h1
              exact (((h1.alloc (.cells #[.int .i64 t] 3)).alloc (.cells #[.int .u64 p.who, .int .u64 (bits .or .u64 0 (bitOf t))] 53)).drew).pick [0, 1, 2] (by decide)
            case measure => simp [intOf]; omega
    · obtain rfl : q = rows.length := by omega
      rw [List.take_length] at hst
      have HST := Lib.hid hst
      clear hst
      go_wp2
      go_ret
      exact ⟨⟨m, rfl⟩, HEND.out _ _ _ HST.out⟩
end Go.Proofs.YtdncpihaeobaeaaGreat

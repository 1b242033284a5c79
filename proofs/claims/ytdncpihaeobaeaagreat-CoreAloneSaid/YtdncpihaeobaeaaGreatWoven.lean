/- Walk of cordonkeep.Woven. -/
import Derived.Test.YtdncpihaeobaeaaGreatPoolS
import Derived.Test.YtdncpihaeobaeaaGreatCoreRuns
import Derived.Test.YtdncpihaeobaeaaGreatAloneLaw
set_option linter.unusedVariables false
set_option linter.unusedSimpArgs false
namespace Go.Proofs.YtdncpihaeobaeaaGreat
open Go.RowKit
theorem wv_lens (ml : List ActR) (t : Int) (alone : Bool) (l : List ActR) : (l.foldl (wvStep ml t alone) ([], [], 0)).1.length = l.length ∧ (l.foldl (wvStep ml t alone) ([], [], 0)).2.1.length ≤ l.length + (l.foldl (wvStep ml t alone) ([], [], 0)).2.2 ∧ (l.foldl (wvStep ml t alone) ([], [], 0)).2.2 ≤ ml.length := by
  have g : ∀ (l : List ActR) (s : List ActR × List ActR × Nat), s.2.2 ≤ ml.length → (l.foldl (wvStep ml t alone) s).1.length = s.1.length + l.length ∧ (l.foldl (wvStep ml t alone) s).2.1.length + s.2.2 ≤ s.2.1.length + l.length + (l.foldl (wvStep ml t alone) s).2.2 ∧ (l.foldl (wvStep ml t alone) s).2.2 ≤ ml.length := by
    intro l
    induction l with
    | nil => intro s hs; exact ⟨rfl, by simp, hs⟩
    | cons a l ih =>
      intro s hs
      have h1 : (wvStep ml t alone s a).2.2 ≤ ml.length := by
        unfold wvStep
        split
        · exact hs
        · show max _ _ ≤ _
          omega
      have h2 : (wvStep ml t alone s a).1.length = s.1.length + 1 := by unfold wvStep; split <;> simp
      have h3 : (wvStep ml t alone s a).2.1.length + s.2.2 ≤ s.2.1.length + 1 + (wvStep ml t alone s a).2.2 := by
        unfold wvStep
        split
        · show s.2.1.length + s.2.2 ≤ s.2.1.length + 1 + s.2.2
          omega
        · show (s.2.1 ++ _ ++ [_]).length + _ ≤ _ + max _ _
          have h2 := List.length_filter_le (othB t) ((ml.drop s.2.2).take (min ml.length (2 * s.1.length + 2) - s.2.2))
          rw [List.length_take, List.length_drop] at h2
          rw [List.length_append, List.length_append, List.length_singleton]
          omega
      obtain ⟨i1, i2, i3⟩ := ih _ h1
      refine ⟨?_, ?_, i3⟩
      · show (l.foldl (wvStep ml t alone) (wvStep ml t alone s a)).1.length = _
        rw [i1, h2, List.length_cons]
        omega
      · show (l.foldl (wvStep ml t alone) (wvStep ml t alone s a)).2.1.length + _ ≤ _ + (l.foldl (wvStep ml t alone) (wvStep ml t alone s a)).2.2
        rw [List.length_cons]
        omega
  obtain ⟨a1, a2, a3⟩ := g l ([], [], 0) (Nat.zero_le _)
  exact ⟨by simpa using a1, by simpa using a2, a3⟩
def fromA (us ms : List ActR) (a : ActR) : Prop := ∃ b, (b ∈ us ∨ b ∈ ms) ∧ a.oa = b.oa ∧ a.oc = b.oc ∧ a.p.ops = b.p.ops ∧ a.i = b.i ∧ a.fr = b.fr
theorem fromA_wv (us ms : List ActR) (alone : Bool) (a : ActR) (h : a ∈ us) : fromA us ms (wvA alone a) := by
  refine ⟨a, .inl h, ?_⟩
  unfold wvA
  split <;> exact ⟨rfl, rfl, rfl, rfl, rfl⟩
theorem fromA_in (us ms : List ActR) (a : ActR) (h : a ∈ us ∨ a ∈ ms) : fromA us ms a := ⟨a, h, rfl, rfl, rfl, rfl, rfl⟩
theorem wv_all (us ms : List ActR) (t : Int) (alone : Bool) : (∀ a ∈ (wvK us ms t alone).1, fromA us ms a) ∧ (∀ a ∈ (wvK us ms t alone).2.1, fromA us ms a) := by
  have g : ∀ (l : List ActR) (s : List ActR × List ActR × Nat), (∀ a ∈ l, a ∈ us) → (∀ a ∈ s.1, fromA us ms a) → (∀ a ∈ s.2.1, fromA us ms a) → (∀ a ∈ (l.foldl (wvStep ms t alone) s).1, fromA us ms a) ∧ (∀ a ∈ (l.foldl (wvStep ms t alone) s).2.1, fromA us ms a) := by
    intro l
    induction l with
    | nil => exact fun s _ h1 h2 => ⟨h1, h2⟩
    | cons a l ih =>
      intro s hl h1 h2
      have ha := hl a (List.mem_cons_self ..)
      refine ih _ (fun x hx => hl x (List.mem_cons_of_mem _ hx)) ?_ ?_
      · unfold wvStep
        split
        · intro x hx
          rcases List.mem_append.1 hx with hx | hx
          · exact h1 x hx
          · obtain rfl : x = a := by simpa using hx
            exact fromA_in _ _ _ (.inl ha)
        · intro x hx
          rcases List.mem_append.1 hx with hx | hx
          · exact h1 x hx
          · obtain rfl : x = wvA alone a := by simpa using hx
            exact fromA_wv _ _ _ _ ha
      · unfold wvStep
        split
        · exact h2
        · intro x hx
          rcases List.mem_append.1 hx with hx | hx
          · rcases List.mem_append.1 hx with hx | hx
            · exact h2 x hx
            · exact fromA_in _ _ _ (.inr (List.mem_of_mem_drop (List.mem_of_mem_take (List.mem_filter.1 hx).1)))
          · obtain rfl : x = wvA alone a := by simpa using hx
            exact fromA_wv _ _ _ _ ha
  exact g us ([], [], 0) (fun _ h => h) (by simp) (by simp)
theorem wv_len (us ms : List ActR) (t : Int) (alone : Bool) : (wvK us ms t alone).1.length ≤ us.length ∧ (wvK us ms t alone).2.1.length ≤ us.length + ms.length := by
  obtain ⟨h1, h2, h3⟩ := wv_lens ms t alone us
  unfold wvK
  omega
theorem ActsOK.made {w0 : World} {R : HP} {us ms X : List ActR} (h1 : ActsOK w0 R us) (h2 : ActsOK w0 R ms) (hX : ∀ a ∈ X, fromA us ms a) : ActsOK w0 R X := by
  intro a ha
  obtain ⟨b, hb, e1, e2, e3, e4, e5⟩ := hX a ha
  obtain ⟨g1, g2, g3⟩ : Seen w0 R 2 Opr.cells b.oa b.p.ops ∧ (b.oa = none → b.oc = 0) ∧ b.val.ok := by
    rcases hb with hb | hb
    · exact h1 b hb
    · exact h2 b hb
  rw [← e1, ← e3] at g1
  rw [← e1, ← e2] at g2
  refine ⟨g1, g2, ?_, ?_, ?_, ?_, ?_⟩
  · show ∀ o ∈ a.p.ops, o.wf
    rw [e3]; exact g3.ops
  · show a.i.ev.wf
    rw [e4]; exact g3.ev
  · show _ ≤ a.fr
    rw [e5]; exact g3.fr0
  · show a.fr ≤ _
    rw [e5]; exact g3.fr1
  · show a.p.ops.length ≤ _
    rw [e3]; exact g3.few
set_option maxHeartbeats 16000000 in
set_option maxRecDepth 20000 in
theorem woven_st {w0 w : World} {L : List HP} (h : St w0 w L) (aa : Option Addr) (ac n : Nat) (al : List ActR) (hl : Seen w0 (sepL L) 15 ActR.cells aa al) (ma : Option Addr) (mc m : Nat) (ml : List ActR) (hm : Seen w0 (sepL L) 15 ActR.cells ma ml) (t : Int) (hn : al.length = n) (hm2 : ml.length = m) (hnx : n ≤ 1000) (hmx : m ≤ 1000) :
    Calls Tryz.prog 12 #[.slice aa n ac, .slice ma m mc, .int .i64 t, .bool true] w fun e w' => ∃ v v', e = .returned (.tuple #[v, v']) ∧ St w0 w' (L ++ [ownP 67 15 ActR.cells v ((wvK al ml t true).1), ownP 67 15 ActR.cells v' ((wvK al ml t true).2.1)]) := by
  have hst : St w0 w [sepL L, ownP 67 15 ActR.cells (.slice none 0 0) (((al.take 0).foldl (wvStep ml t true) ([], [], 0)).1), ownP 67 15 ActR.cells (.slice none 0 0) (((al.take 0).foldl (wvStep ml t true) ([], [], 0)).2.1)] := (h.wrap.nil 67 15 ActR.cells).nil 67 15 ActR.cells
  have HS := Lib.hid hst
  have HL := Lib.hid hl
  have HM := Lib.hid hm
  have HN := Lib.hid hn
  have HM2 := Lib.hid hm2
  have HNX := Lib.hid hnx
  have HMX := Lib.hid hmx
  clear h hl hm hst hn hm2
  go_enter Tryz.func12, Tryz.ntmps12
  go_wp2_with fail
  go_loopw [10, 11, 12, 17] (fun xv yv jv iv wr => ∃ k : Nat, k ≤ n ∧ iv = .int .i64 k ∧ jv = .int .i64 (((al.take k).foldl (wvStep ml t true) ([], [], 0)).2.2 : Nat) ∧ St w0 wr [sepL L, ownP 67 15 ActR.cells xv (((al.take k).foldl (wvStep ml t true) ([], [], 0)).1), ownP 67 15 ActR.cells yv (((al.take k).foldl (wvStep ml t true) ([], [], 0)).2.1)]) (fun _ _ _ iv _ => n - (intOf iv).toNat)
  case atStart => exact ⟨0, by omega, rfl, rfl, HS.out⟩
  case round =>
    clear HS
    obtain ⟨k, hk, rfl, rfl, hst⟩ := hrel
    by_cases hlt : (k : Int) < n
    · have hk1 : k < al.length := by have := HN.out; omega
      obtain ⟨x, hx⟩ : ∃ x, al[k] = x := ⟨_, rfl⟩
      have htk : ((al.take (k + 1)).foldl (wvStep ml t true) ([], [], 0)) = wvStep ml t true ((al.take k).foldl (wvStep ml t true) ([], [], 0)) x := by rw [List.take_add_one, List.getElem?_eq_getElem hk1, List.foldl_append, hx]; rfl
      have hlen := wv_lens ml t true (al.take k)
      rw [List.length_take] at hlen
      generalize ((al.take k).foldl (wvStep ml t true) ([], [], 0)) = T at *
      obtain ⟨X, Y, j⟩ := T
      dsimp only at hst hlen
      obtain ⟨xa, xc, hov, _⟩ := hst.sl ActR.len 1 rfl
      subst hov
      obtain ⟨ya, yc, hov, _⟩ := hst.sl ActR.len 2 rfl
      subst hov
      obtain ⟨b, o, rfl, hbl, c0, c1, c2, c3, c4, c5, c6, c7, c8, c9, c10, c11, c12, c13, c14⟩ := (HL.out wr _ 0 hst rfl).actAt k hk1 x hx
      obtain ⟨kd, tn, fr, nn, oa, oc, ⟨ops, sz, sl, ag, sk, fd⟩, ⟨im, ⟨et, ek, ev, el⟩⟩⟩ := x
      dsimp only at c0 c1 c2 c3 c4 c5 c6 c7 c8 c9 c10 c11 c12 c13 c14
      have hxl : X.length < 1000000 := by have := HNX.out; omega
      have hyl0 : Y.length + ml.length < 999000 := by have := HNX.out; have := HMX.out; have := HM2.out; omega
      have hjm : j ≤ ml.length := hlen.2.2
      have h3 : St w0 (wr.alloc (.cells #[.int .i64 kd, .int .i64 tn, .int .i64 fr, .int .i64 nn, .slice oa ops.length oc, .int .i64 sz, .int .i64 sl, .int .i64 ag, .int .i64 sk, .int .i64 fd, .bool im, .int .i64 et, .int .i64 ek, .int .i64 ev, .int .u64 el] 67)) [sepL L, ownP 67 15 ActR.cells (.slice xa (X).length xc) (X), ownP 67 15 ActR.cells (.slice ya (Y).length yc) (Y), pt wr.heap.size (.cells #[.int .i64 kd, .int .i64 tn, .int .i64 fr, .int .i64 nn, .slice oa ops.length oc, .int .i64 sz, .int .i64 sl, .int .i64 ag, .int .i64 sk, .int .i64 fd, .bool im, .int .i64 et, .int .i64 ek, .int .i64 ev, .int .u64 el] 67 (0, 0))] := hst.alloc (.cells #[.int .i64 kd, .int .i64 tn, .int .i64 fr, .int .i64 nn, .slice oa ops.length oc, .int .i64 sz, .int .i64 sl, .int .i64 ag, .int .i64 sk, .int .i64 fd, .bool im, .int .i64 et, .int .i64 ek, .int .i64 ev, .int .u64 el] 67)
      have h4 := h3.alloc (.cells #[.int .i64 kd, .int .i64 tn, .int .i64 fr, .int .i64 nn, .slice oa ops.length oc, .int .i64 sz, .int .i64 sl, .int .i64 ag, .int .i64 sk, .int .i64 fd, .bool im, .int .i64 et, .int .i64 ek, .int .i64 ev, .int .u64 el] 67)
      rw [World.size_alloc] at h4
      have HXL := Lib.hid hxl
      have HYL0 := Lib.hid hyl0
      have HTK := Lib.hid htk
      have HJM := Lib.hid hjm
      have H3 := Lib.hid h3
      have H4 := Lib.hid h4
      clear hlen htk h3 h4 hst hx hxl hyl0 hjm
      by_cases hmine : (kd == 3 || tn == t) = true
      · have hst1 : wvStep ml t true (X, Y, j) (⟨kd, tn, fr, nn, oa, oc, ⟨ops, sz, sl, ag, sk, fd⟩, ⟨im, ⟨et, ek, ev, el⟩⟩⟩ : ActR) = (X ++ [wvA true (⟨kd, tn, fr, nn, oa, oc, ⟨ops, sz, sl, ag, sk, fd⟩, ⟨im, ⟨et, ek, ev, el⟩⟩⟩ : ActR)], Y ++ ((ml.drop j).take (min ml.length (2 * X.length + 2) - j)).filter (othB t) ++ [wvA true (⟨kd, tn, fr, nn, oa, oc, ⟨ops, sz, sl, ag, sk, fd⟩, ⟨im, ⟨et, ek, ev, el⟩⟩⟩ : ActR)], max j (min ml.length (2 * X.length + 2))) := by
          unfold wvStep
          rw [if_neg (by show ¬ (!(kd == 3 || tn == t)) = true; rw [hmine]; decide)]
        rw [hst1] at HTK
        clear hst1
        obtain ⟨f2, hf2⟩ : ∃ f2, wvA true (⟨kd, tn, fr, nn, oa, oc, ⟨ops, sz, sl, ag, sk, fd⟩, ⟨im, ⟨et, ek, ev, el⟩⟩⟩ : ActR) = (⟨kd, tn, fr, nn, oa, oc, ⟨ops, sz, sl, ag, sk, f2⟩, ⟨im, ⟨et, ek, ev, el⟩⟩⟩ : ActR) := by
          unfold wvA
          split
          · exact ⟨-1, rfl⟩
          · exact ⟨fd, rfl⟩
        rw [hf2] at HTK
        have HWV := HTK
        have HF2 := Lib.hid hf2
        clear HTK hf2
        have hk3 : kd = 3 ∨ (¬ kd = 3 ∧ tn = t) := by
          by_cases h : kd = 3
          · exact .inl h
          · exact .inr ⟨h, by simpa [h] using hmine⟩
        clear hmine H4
        go_upto_region 6 with fail
        refine wp_at H3.out ?_
        intro w1 hst1
        generalize wr.heap.size = g at *
        have hst1 : St w0 w1 [sepL L, ownP 67 15 ActR.cells (.slice xa (X).length xc) (X), ownP 67 15 ActR.cells (.slice ya (Y).length yc) (Y), pt g (.cells #[.int .i64 kd, .int .i64 tn, .int .i64 fr, .int .i64 nn, .slice oa ops.length oc, .int .i64 sz, .int .i64 sl, .int .i64 ag, .int .i64 sk, .int .i64 fd, .bool im, .int .i64 et, .int .i64 ek, .int .i64 ev, .int .u64 el] 67 (0, 0))] := hst1
        obtain ⟨zz, fz⟩ := blkCells (hst1.blk 3 rfl).1
        have z0 : w1.cell? ⟨g, 0, none⟩ = some (.int .i64 kd) := (zz 0).trans rfl
        have z1 : w1.cell? ⟨g, 1, none⟩ = some (.int .i64 tn) := (zz 1).trans rfl
        have z9 : w1.cell? ⟨g, 9, none⟩ = some (.int .i64 fd) := (zz 9).trans rfl
        have hlg := (hst1.blk 3 rfl).2.2
        have hs9 := hst1.set 3 rfl 9 (.int .i64 (-1))
        have hs9 : St w0 (w1.setCell ⟨g, 9, none⟩ (.int .i64 (-1))) [sepL L, ownP 67 15 ActR.cells (.slice xa (X).length xc) (X), ownP 67 15 ActR.cells (.slice ya (Y).length yc) (Y), pt g (.cells #[.int .i64 kd, .int .i64 tn, .int .i64 fr, .int .i64 nn, .slice oa ops.length oc, .int .i64 sz, .int .i64 sl, .int .i64 ag, .int .i64 sk, .int .i64 (-1), .bool im, .int .i64 et, .int .i64 ek, .int .i64 ev, .int .u64 el] 67 (0, 0))] := hs9
        have HS9 := Lib.hid hs9
        have HG := Lib.hid hst1
        clear H3 c0 c1 c2 c3 c4 c5 c6 c7 c8 c9 c10 c11 c12 c13 c14 hst1 hs9 zz
        go_cut [29] from 21 to 33 (fun v wx => v = .bool false ∧ wx = w1)
        case first =>
          rcases hk3 with hk | ⟨hk, htt⟩
          · have q1 : (kd != 3) = false := by simp [hk]
            have q2 : decide (kd = 3) = true := by simp [hk]
            clear hk
            go_wp2_with fail
            go_meet
            exact ⟨rfl, rfl⟩
          · have q1 : (kd != 3) = true := by simp [hk]
            have q2 : (tn != t) = false := by simp [htt]
            clear hk htt
            go_wp2_with fail
            go_meet
            exact ⟨rfl, rfl⟩
        case rest =>
          obtain ⟨rfl, rfl⟩ := hcut
          clear hk3
          go_upto_if 39 with fail
          go_cut [] from 38 to 41 (fun wx => St w0 wx [sepL L, ownP 67 15 ActR.cells (.slice xa (X).length xc) (X), ownP 67 15 ActR.cells (.slice ya (Y).length yc) (Y), pt g (.cells #[.int .i64 kd, .int .i64 tn, .int .i64 fr, .int .i64 nn, .slice oa ops.length oc, .int .i64 sz, .int .i64 sl, .int .i64 ag, .int .i64 sk, .int .i64 f2, .bool im, .int .i64 et, .int .i64 ek, .int .i64 ev, .int .u64 el] 67 (0, 0))])
          case first =>
            by_cases hk1 : kd = 1
            · obtain rfl : f2 = -1 := by
                subst hk1
                exact (congrArg (fun x : ActR => x.p.feed) HF2.out).symm
              have p7 : (kd == 1) = true := by simp [hk1]
              have p6 : decide (kd = 1) = true := by simp [hk1]
              clear hk1
              go_wp2_with fail
              go_meet
              exact HS9.out
            · obtain rfl : fd = f2 := by
                have h := congrArg (fun x : ActR => x.p.feed) HF2.out
                unfold wvA at h
                rw [if_neg (by simp [hk1])] at h
                exact h
              have p7 : (kd == 1) = false := by simp [hk1]
              have p6 : decide (kd = 1) = false := by simp [hk1]
              clear hk1
              go_wp2_with fail
              go_meet
              exact HG.out
          case rest =>
            have hb1 := hcut
            clear hcut HG HS9 z0 z1 z9 fz
            go_upto_block 2 with fail
            go_cut [11, 12] from 42 to 77 (fun yv jv wx => jv = .int .i64 ((max j (min ml.length (2 * X.length + 2)) : Nat) : Int) ∧ St w0 wx [sepL L, ownP 67 15 ActR.cells (.slice xa (X).length xc) (X), ownP 67 15 ActR.cells yv (Y ++ ((ml.drop j).take (min ml.length (2 * X.length + 2) - j)).filter (othB t)), pt g (.cells #[.int .i64 kd, .int .i64 tn, .int .i64 fr, .int .i64 nn, .slice oa ops.length oc, .int .i64 sz, .int .i64 sl, .int .i64 ag, .int .i64 sk, .int .i64 f2, .bool im, .int .i64 et, .int .i64 ek, .int .i64 ev, .int .u64 el] 67 (0, 0))])
            case first =>
              have HB1 := Lib.hid hb1
              clear hb1
              go_wp2_with fail
              go_loopw [11, 12] (fun yv jv wr2 => ∃ j2 : Nat, j ≤ j2 ∧ (j2 = j ∨ j2 ≤ 2 * X.length + 2) ∧ j2 ≤ ml.length ∧ jv = .int .i64 j2 ∧ St w0 wr2 [sepL L, ownP 67 15 ActR.cells (.slice xa (X).length xc) (X), ownP 67 15 ActR.cells yv (Y ++ ((ml.drop j).take (j2 - j)).filter (othB t)), pt g (.cells #[.int .i64 kd, .int .i64 tn, .int .i64 fr, .int .i64 nn, .slice oa ops.length oc, .int .i64 sz, .int .i64 sl, .int .i64 ag, .int .i64 sk, .int .i64 f2, .bool im, .int .i64 et, .int .i64 ek, .int .i64 ev, .int .u64 el] 67 (0, 0))]) (fun _ jv _ => ml.length - (intOf jv).toNat)
              case atStart => exact ⟨j, by omega, .inl rfl, HJM.out, rfl, by rw [Nat.sub_self, List.take_zero, List.filter_nil, List.append_nil]; exact HB1.out⟩
              case round =>
                clear HB1
                obtain ⟨j2, hj2, hje, hjm, rfl, hst2⟩ := hrel
                obtain ⟨za, zc, hov2, _⟩ := hst2.sl ActR.len 2 rfl
                subst hov2
                have hyl : (Y ++ ((ml.drop j).take (j2 - j)).filter (othB t)).length < 999000 := by
                  have h1 := HYL0.out
                  have h2 := List.length_filter_le (othB t) ((ml.drop j).take (j2 - j))
                  rw [List.length_take, List.length_drop] at h2
                  rw [List.length_append]
                  omega
                have hx6 := HXL.out
                have hwx : wrap64 (2 * (X.length : Int)) = 2 * X.length := wrap64_id (by omega) (by omega)
                have hwy : wrap64 (2 * (X.length : Int) + 2) = 2 * X.length + 2 := wrap64_id (by omega) (by omega)
                by_cases hlt2 : (j2 : Int) < m
                · by_cases hlt3 : (j2 : Int) < 2 * X.length + 2
                  · have hm1 : j2 < ml.length := by have := HM2.out; omega
                    obtain ⟨y, hy⟩ : ∃ y, ml[j2] = y := ⟨_, rfl⟩
                    obtain ⟨b2, o2, hba2, hbl2, e0, e1, e2, e3, e4, e5, e6, e7, e8, e9, e10, e11, e12, e13, e14⟩ := (HM.out wr _ 0 hst2 rfl).actAt j2 hm1 y hy
                    subst hba2
                    have htk : ((ml.drop j).take (j2 + 1 - j)) = ((ml.drop j).take (j2 - j)) ++ [y] := by
                      rw [show j2 + 1 - j = (j2 - j) + 1 by omega, List.take_add_one, List.getElem?_drop, show j + (j2 - j) = j2 by omega, List.getElem?_eq_getElem hm1, hy]
                      rfl
                    obtain ⟨kd', tn', fr', nn', oa', oc', ⟨ops', sz', sl', ag', sk', fd'⟩, ⟨im', ⟨et', ek', ev', el'⟩⟩⟩ := y
                    dsimp only at e0 e1 e2 e3 e4 e5 e6 e7 e8 e9 e10 e11 e12 e13 e14
                    have hP : othB t (⟨kd', tn', fr', nn', oa', oc', ⟨ops', sz', sl', ag', sk', fd'⟩, ⟨im', ⟨et', ek', ev', el'⟩⟩⟩ : ActR) = !((kd' == 3) || (tn' == t)) := rfl
                    have htf : (Y ++ ((ml.drop j).take (j2 + 1 - j)).filter (othB t)) = (Y ++ ((ml.drop j).take (j2 - j)).filter (othB t)) ++ if othB t (⟨kd', tn', fr', nn', oa', oc', ⟨ops', sz', sl', ag', sk', fd'⟩, ⟨im', ⟨et', ek', ev', el'⟩⟩⟩ : ActR) then [(⟨kd', tn', fr', nn', oa', oc', ⟨ops', sz', sl', ag', sk', fd'⟩, ⟨im', ⟨et', ek', ev', el'⟩⟩⟩ : ActR)] else [] := by
                      rw [htk, List.filter_append, ← List.append_assoc]
                      congr 1
                      by_cases h : othB t (⟨kd', tn', fr', nn', oa', oc', ⟨ops', sz', sl', ag', sk', fd'⟩, ⟨im', ⟨et', ek', ev', el'⟩⟩⟩ : ActR) = true
                      · rw [if_pos h, List.filter_cons_of_pos h, List.filter_nil]
                      · rw [if_neg h, List.filter_cons_of_neg h, List.filter_nil]
                    rw [hP] at htf
                    generalize hgo : Y ++ ((ml.drop j).take (j2 - j)).filter (othB t) = YY at *
                    have h5 := hst2.alloc (.cells #[.int .i64 kd', .int .i64 tn', .int .i64 fr', .int .i64 nn', .slice oa' ops'.length oc', .int .i64 sz', .int .i64 sl', .int .i64 ag', .int .i64 sk', .int .i64 fd', .bool im', .int .i64 et', .int .i64 ek', .int .i64 ev', .int .u64 el'] 67)
                    have H5 := Lib.hid h5
                    have HST2 := Lib.hid hst2
                    have HTF := Lib.hid htf
                    have HYL := Lib.hid hyl
                    clear h5 hst2 htf htk hy hP hgo hyl
                    by_cases q1 : kd' = 3
                    · subst q1
                      have q3 : (!(((3 : Int) == 3) || (tn' == t))) = false := rfl
                      rw [q3, if_neg (by decide), List.append_nil] at HTF
                      clear q3
                      go_wp2_with fail
                      go_roundw
                      case rel => exact ⟨j2 + 1, by omega, .inr (by omega), (by have := HM2.out; omega), by go_num, by rw [HTF.out]; exact HST2.out⟩
                      case measure => (have := HM2.out); simp [intOf]; omega
                    · have p9 : (kd' != 3) = true := by simp [q1]
                      by_cases q2 : tn' = t
                      · subst q2
                        have q3 : (!((kd' == 3) || (tn' == tn'))) = false := by simp
                        rw [q3, if_neg (by decide), List.append_nil] at HTF
                        clear q3
                        go_wp2_with fail
                        go_roundw
                        case rel => exact ⟨j2 + 1, by omega, .inr (by omega), (by have := HM2.out; omega), by go_num, by rw [HTF.out]; exact HST2.out⟩
                        case measure => (have := HM2.out); simp [intOf]; omega
                      · have q3 : (!((kd' == 3) || (tn' == t))) = true := by simp [q1, q2]
                        rw [q3, if_pos rfl] at HTF
                        have p8 : (tn' != t) = true := by simp [q2]
                        clear q3
                        go_wp2_with (at_builtin; refine wpList_push_stB actElem rfl H5.out 2 rfl _ _ rfl rfl _ (⟨kd', tn', fr', nn', oa', oc', ⟨ops', sz', sl', ag', sk', fd'⟩, ⟨im', ⟨et', ek', ev', el'⟩⟩⟩ : ActR) rfl (heap_new _ _) (by have := HYL.out; omega) ?_; intro v7 w7 hst7 _; have H7 := Lib.hid (hst7.pick [0, 1, 2, 3] (by decide)); clear hst7 H5)
                        go_roundw
                        case rel => exact ⟨j2 + 1, by omega, .inr (by omega), (by have := HM2.out; omega), by go_num, by rw [HTF.out]; exact H7.out⟩
                        case measure => (have := HM2.out); simp [intOf]; omega
                  · have hjx : j2 = max j (min ml.length (2 * X.length + 2)) := by omega
                    have hjs : j2 - j = min ml.length (2 * X.length + 2) - j := by omega
                    generalize hgo : Y ++ ((ml.drop j).take (j2 - j)).filter (othB t) = YY at *
                    have HST2 := Lib.hid hst2
                    have HJX := Lib.hid hjx
                    have HJS := Lib.hid hjs
                    have HGO := Lib.hid hgo
                    clear hst2 hjx hjs hgo
                    go_wp2_with fail
                    go_meet
                    exact ⟨by rw [← HJX.out], by rw [← HJS.out, HGO.out]; exact HST2.out⟩
                · have hjx : j2 = max j (min ml.length (2 * X.length + 2)) := by have := HM2.out; omega
                  have hjs : j2 - j = min ml.length (2 * X.length + 2) - j := by have := HM2.out; omega
                  generalize hgo : Y ++ ((ml.drop j).take (j2 - j)).filter (othB t) = YY at *
                  have HST2 := Lib.hid hst2
                  have HJX := Lib.hid hjx
                  have HJS := Lib.hid hjs
                  have HGO := Lib.hid hgo
                  clear hst2 hjx hjs hgo
                  go_wp2_with fail
                  go_meet
                  exact ⟨by rw [← HJX.out], by rw [← HJS.out, HGO.out]; exact HST2.out⟩
            case rest =>
              obtain ⟨rfl, hst2⟩ := hcut
              clear hb1
              obtain ⟨za, zc, hov2, _⟩ := hst2.sl ActR.len 2 rfl
              subst hov2
              have hyl : (Y ++ ((ml.drop j).take (min ml.length (2 * X.length + 2) - j)).filter (othB t)).length < 999000 := by
                have h1 := HYL0.out
                have h2 := List.length_filter_le (othB t) ((ml.drop j).take (min ml.length (2 * X.length + 2) - j))
                rw [List.length_append]
                rw [List.length_take, List.length_drop] at h2
                omega
              have HWM := HWV
              have HYL := Lib.hid hyl
              clear hyl HWV
              generalize hgo : Y ++ ((ml.drop j).take (min ml.length (2 * X.length + 2) - j)).filter (othB t) = YY at *
              have hc0 : ∀ (w' : World), w'.heap[g]? = some (.cells #[.int .i64 kd, .int .i64 tn, .int .i64 fr, .int .i64 nn, .slice oa ops.length oc, .int .i64 sz, .int .i64 sl, .int .i64 ag, .int .i64 sk, .int .i64 f2, .bool im, .int .i64 et, .int .i64 ek, .int .i64 ev, .int .u64 el] 67 (0, 0)) → ((w').cell? ⟨g, 0, none⟩ = some (.int .i64 kd) ∧ (w').cell? ⟨g, 1, none⟩ = some (.int .i64 tn) ∧ (w').cell? ⟨g, 2, none⟩ = some (.int .i64 fr) ∧ (w').cell? ⟨g, 3, none⟩ = some (.int .i64 nn) ∧ (w').cell? ⟨g, 4, none⟩ = some (.slice oa ops.length oc) ∧ (w').cell? ⟨g, 5, none⟩ = some (.int .i64 sz) ∧ (w').cell? ⟨g, 6, none⟩ = some (.int .i64 sl) ∧ (w').cell? ⟨g, 7, none⟩ = some (.int .i64 ag) ∧ (w').cell? ⟨g, 8, none⟩ = some (.int .i64 sk) ∧ (w').cell? ⟨g, 9, none⟩ = some (.int .i64 f2) ∧ (w').cell? ⟨g, 10, none⟩ = some (.bool im) ∧ (w').cell? ⟨g, 11, none⟩ = some (.int .i64 et) ∧ (w').cell? ⟨g, 12, none⟩ = some (.int .i64 ek) ∧ (w').cell? ⟨g, 13, none⟩ = some (.int .i64 ev) ∧ (w').cell? ⟨g, 14, none⟩ = some (.int .u64 el)) := fun w' h => by obtain ⟨q, _⟩ := blkCells h; exact ⟨(q 0).trans rfl, (q 1).trans rfl, (q 2).trans rfl, (q 3).trans rfl, (q 4).trans rfl, (q 5).trans rfl, (q 6).trans rfl, (q 7).trans rfl, (q 8).trans rfl, (q 9).trans rfl, (q 10).trans rfl, (q 11).trans rfl, (q 12).trans rfl, (q 13).trans rfl, (q 14).trans rfl⟩
              have hq0 := hst2.drew
              have hq1 : St w0 ((wc.alloc (.cells #[.int .i64 kd, .int .i64 tn, .int .i64 fr, .int .i64 nn, .slice oa ops.length oc, .int .i64 sz, .int .i64 sl, .int .i64 ag, .int .i64 sk, .int .i64 f2, .bool im, .int .i64 et, .int .i64 ek, .int .i64 ev, .int .u64 el] 67)).drew) [sepL L, ownP 67 15 ActR.cells (.slice xa (X).length xc) (X), ownP 67 15 ActR.cells (.slice za YY.length zc) (YY), pt g (.cells #[.int .i64 kd, .int .i64 tn, .int .i64 fr, .int .i64 nn, .slice oa ops.length oc, .int .i64 sz, .int .i64 sl, .int .i64 ag, .int .i64 sk, .int .i64 f2, .bool im, .int .i64 et, .int .i64 ek, .int .i64 ev, .int .u64 el] 67 (0, 0)), pt wc.heap.size (.cells #[.int .i64 kd, .int .i64 tn, .int .i64 fr, .int .i64 nn, .slice oa ops.length oc, .int .i64 sz, .int .i64 sl, .int .i64 ag, .int .i64 sk, .int .i64 f2, .bool im, .int .i64 et, .int .i64 ek, .int .i64 ev, .int .u64 el] 67 (0, 0))] := (hst2.alloc (.cells #[.int .i64 kd, .int .i64 tn, .int .i64 fr, .int .i64 nn, .slice oa ops.length oc, .int .i64 sz, .int .i64 sl, .int .i64 ag, .int .i64 sk, .int .i64 f2, .bool im, .int .i64 et, .int .i64 ek, .int .i64 ev, .int .u64 el] 67)).drew
              have hq2 := ((hst2.alloc (.cells #[.int .i64 kd, .int .i64 tn, .int .i64 fr, .int .i64 nn, .slice oa ops.length oc, .int .i64 sz, .int .i64 sl, .int .i64 ag, .int .i64 sk, .int .i64 f2, .bool im, .int .i64 et, .int .i64 ek, .int .i64 ev, .int .u64 el] 67)).alloc (.cells #[.int .i64 kd, .int .i64 tn, .int .i64 fr, .int .i64 nn, .slice oa ops.length oc, .int .i64 sz, .int .i64 sl, .int .i64 ag, .int .i64 sk, .int .i64 f2, .bool im, .int .i64 et, .int .i64 ek, .int .i64 ev, .int .u64 el] 67)).drew
              rw [World.size_alloc] at hq2
              have hq2 : St w0 (((wc.alloc (.cells #[.int .i64 kd, .int .i64 tn, .int .i64 fr, .int .i64 nn, .slice oa ops.length oc, .int .i64 sz, .int .i64 sl, .int .i64 ag, .int .i64 sk, .int .i64 f2, .bool im, .int .i64 et, .int .i64 ek, .int .i64 ev, .int .u64 el] 67)).alloc (.cells #[.int .i64 kd, .int .i64 tn, .int .i64 fr, .int .i64 nn, .slice oa ops.length oc, .int .i64 sz, .int .i64 sl, .int .i64 ag, .int .i64 sk, .int .i64 f2, .bool im, .int .i64 et, .int .i64 ek, .int .i64 ev, .int .u64 el] 67)).drew) [sepL L, ownP 67 15 ActR.cells (.slice xa (X).length xc) (X), ownP 67 15 ActR.cells (.slice za YY.length zc) (YY), pt g (.cells #[.int .i64 kd, .int .i64 tn, .int .i64 fr, .int .i64 nn, .slice oa ops.length oc, .int .i64 sz, .int .i64 sl, .int .i64 ag, .int .i64 sk, .int .i64 f2, .bool im, .int .i64 et, .int .i64 ek, .int .i64 ev, .int .u64 el] 67 (0, 0)), pt wc.heap.size (.cells #[.int .i64 kd, .int .i64 tn, .int .i64 fr, .int .i64 nn, .slice oa ops.length oc, .int .i64 sz, .int .i64 sl, .int .i64 ag, .int .i64 sk, .int .i64 f2, .bool im, .int .i64 et, .int .i64 ek, .int .i64 ev, .int .u64 el] 67 (0, 0)), pt (wc.heap.size + 1) (.cells #[.int .i64 kd, .int .i64 tn, .int .i64 fr, .int .i64 nn, .slice oa ops.length oc, .int .i64 sz, .int .i64 sl, .int .i64 ag, .int .i64 sk, .int .i64 f2, .bool im, .int .i64 et, .int .i64 ek, .int .i64 ev, .int .u64 el] 67 (0, 0))] := hq2
              have S0 := hc0 _ (hst2.blk 3 rfl).1
              have S1 := hc0 _ (hq0.blk 3 rfl).1
              have S2 := hc0 _ (hq1.blk 3 rfl).1
              have S3 := hc0 _ (hq2.blk 3 rfl).1
              have HC0 := Lib.hid hc0
              have HQ1 := Lib.hid hq1
              have HQ2 := Lib.hid hq2
              clear hc0 hq0 hq1 hq2 hst2 hgo
              go_wp2_with fail
              go_region_held3 (fun w' => (w').cell? ⟨g, 0, none⟩ = some (.int .i64 kd) ∧ (w').cell? ⟨g, 1, none⟩ = some (.int .i64 tn) ∧ (w').cell? ⟨g, 2, none⟩ = some (.int .i64 fr) ∧ (w').cell? ⟨g, 3, none⟩ = some (.int .i64 nn) ∧ (w').cell? ⟨g, 4, none⟩ = some (.slice oa ops.length oc) ∧ (w').cell? ⟨g, 5, none⟩ = some (.int .i64 sz) ∧ (w').cell? ⟨g, 6, none⟩ = some (.int .i64 sl) ∧ (w').cell? ⟨g, 7, none⟩ = some (.int .i64 ag) ∧ (w').cell? ⟨g, 8, none⟩ = some (.int .i64 sk) ∧ (w').cell? ⟨g, 9, none⟩ = some (.int .i64 f2) ∧ (w').cell? ⟨g, 10, none⟩ = some (.bool im) ∧ (w').cell? ⟨g, 11, none⟩ = some (.int .i64 et) ∧ (w').cell? ⟨g, 12, none⟩ = some (.int .i64 ek) ∧ (w').cell? ⟨g, 13, none⟩ = some (.int .i64 ev) ∧ (w').cell? ⟨g, 14, none⟩ = some (.int .u64 el)) (first | (with_reducible exact S0) | (with_reducible exact S1) | (with_reducible exact S2) | (with_reducible exact S3) | (with_reducible exact S4) | (with_reducible exact S5) | (with_reducible exact S6))
                (first
                  | (refine step_append_stB actElem rfl HQ4a.out 2 rfl _ _ rfl rfl (some ⟨w5.heap.size, 0, none⟩) 1 [(⟨kd, tn, fr, nn, oa, oc, ⟨ops, sz, sl, ag, sk, f2⟩, ⟨im, ⟨et, ek, ev, el⟩⟩⟩ : ActR)] rfl (by simp) (SlAt.one ActR.len (HQ4a.out.blk 4 rfl).1) (by have := HYL.out; show YY.length + 1 ≤ _; omega) ?_; intro v7 w7 h7 _; have S6 := HC0.out _ (h7.blk 3 rfl).1; have H9 := Lib.hid (h7.pick [0, 1, 2] (by decide)); clear h7 HQ4a)
                  | (refine step_append_stB actElem rfl HQ4b.out 2 rfl _ _ rfl rfl (some ⟨wc.heap.size + 1, 0, none⟩) 1 [(⟨kd, tn, fr, nn, oa, oc, ⟨ops, sz, sl, ag, sk, f2⟩, ⟨im, ⟨et, ek, ev, el⟩⟩⟩ : ActR)] rfl (by simp) (SlAt.one ActR.len (HQ4b.out.blk 4 rfl).1) (by have := HYL.out; show YY.length + 1 ≤ _; omega) ?_; intro v7 w7 h7 _; have S6 := HC0.out _ (h7.blk 3 rfl).1; have H9 := Lib.hid (h7.pick [0, 1, 2] (by decide)); clear h7 HQ4b)
                  | (refine step_append_stB actElem rfl HQ4c.out 2 rfl _ _ rfl rfl (some ⟨wc.heap.size, 0, none⟩) 1 [(⟨kd, tn, fr, nn, oa, oc, ⟨ops, sz, sl, ag, sk, f2⟩, ⟨im, ⟨et, ek, ev, el⟩⟩⟩ : ActR)] rfl (by simp) (SlAt.one ActR.len (HQ4c.out.blk 4 rfl).1) (by have := HYL.out; show YY.length + 1 ≤ _; omega) ?_; intro v7 w7 h7 _; have S6 := HC0.out _ (h7.blk 3 rfl).1; have H9 := Lib.hid (h7.pick [0, 1, 2] (by decide)); clear h7 HQ4c)
                  | (refine step_append_stB actElem rfl HQ1.out 1 rfl _ _ rfl rfl (some ⟨wc.heap.size, 0, none⟩) 1 [(⟨kd, tn, fr, nn, oa, oc, ⟨ops, sz, sl, ag, sk, f2⟩, ⟨im, ⟨et, ek, ev, el⟩⟩⟩ : ActR)] rfl (by simp) (SlAt.one ActR.len (HQ1.out.blk 4 rfl).1) (by have := HXL.out; show X.length + 1 ≤ _; omega) ?_; intro v5 w5 h5 _; have h6 := (h5.pick [0, 1, 2, 3] (by decide)).alloc (.cells #[.int .i64 kd, .int .i64 tn, .int .i64 fr, .int .i64 nn, .slice oa ops.length oc, .int .i64 sz, .int .i64 sl, .int .i64 ag, .int .i64 sk, .int .i64 f2, .bool im, .int .i64 et, .int .i64 ek, .int .i64 ev, .int .u64 el] 67); have S4 := HC0.out _ (h5.blk 3 rfl).1; have S5 := HC0.out _ (h6.blk 3 rfl).1; have HQ4a := Lib.hid h6; clear h5 h6 HQ1)
                  | (refine step_append_stB actElem rfl HQ2.out 1 rfl _ _ rfl rfl (some ⟨wc.heap.size, 0, none⟩) 1 [(⟨kd, tn, fr, nn, oa, oc, ⟨ops, sz, sl, ag, sk, f2⟩, ⟨im, ⟨et, ek, ev, el⟩⟩⟩ : ActR)] rfl (by simp) (SlAt.one ActR.len (HQ2.out.blk 4 rfl).1) (by have := HXL.out; show X.length + 1 ≤ _; omega) ?_; intro v5 w5 h5 _; have h6 := h5.pick [0, 1, 2, 3, 5] (by decide); have S4 := HC0.out _ (h5.blk 3 rfl).1; have HQ4b := Lib.hid h6; clear h5 h6 HQ2)
                  | (refine step_append_stB actElem rfl HQ2.out 1 rfl _ _ rfl rfl (some ⟨wc.heap.size + 1, 0, none⟩) 1 [(⟨kd, tn, fr, nn, oa, oc, ⟨ops, sz, sl, ag, sk, f2⟩, ⟨im, ⟨et, ek, ev, el⟩⟩⟩ : ActR)] rfl (by simp) (SlAt.one ActR.len (HQ2.out.blk 5 rfl).1) (by have := HXL.out; show X.length + 1 ≤ _; omega) ?_; intro v5 w5 h5 _; have h6 := h5.pick [0, 1, 2, 3, 4] (by decide); have S4 := HC0.out _ (h5.blk 3 rfl).1; have HQ4c := Lib.hid h6; clear h5 h6 HQ2))
              all_goals
                go_wp2_with fail
                go_roundw
                case rel => exact ⟨k + 1, by omega, by go_num, by rw [HWM.out], by rw [HWM.out]; exact H9.out⟩
                case measure => simp [intOf]; omega
      · have hst1 : wvStep ml t true (X, Y, j) (⟨kd, tn, fr, nn, oa, oc, ⟨ops, sz, sl, ag, sk, fd⟩, ⟨im, ⟨et, ek, ev, el⟩⟩⟩ : ActR) = (X ++ [(⟨kd, tn, fr, nn, oa, oc, ⟨ops, sz, sl, ag, sk, fd⟩, ⟨im, ⟨et, ek, ev, el⟩⟩⟩ : ActR)], Y, j) := by
          unfold wvStep
          rw [if_pos (by show (!(kd == 3 || tn == t)) = true; simpa using hmine)]
        rw [hst1] at HTK
        clear hst1
        have p1 : (kd != 3) = true := by cases hk : (kd != 3) <;> simp_all
        have p2 : (tn != t) = true := by cases hk : (tn != t) <;> simp_all
        clear hmine H3
        go_wp2_with (at_builtin; refine wpList_push_stB actElem rfl H4.out 1 rfl _ _ rfl rfl _ (⟨kd, tn, fr, nn, oa, oc, ⟨ops, sz, sl, ag, sk, fd⟩, ⟨im, ⟨et, ek, ev, el⟩⟩⟩ : ActR) rfl (H4.out.blk 4 rfl).1 HXL.out ?_; intro v7 w7 hst7 _; have H7 := Lib.hid (hst7.pick [0, 1, 2] (by decide)); clear hst7 H4)
        go_roundw
        case rel => exact ⟨k + 1, by omega, by go_num, by rw [HTK.out], by rw [HTK.out]; exact H7.out⟩
        case measure => simp [intOf]; omega
    · have HST := Lib.hid hst
      clear hst
      go_wp2
      go_ret2
      obtain rfl : k = n := by omega
      have h := HST.out
      rw [List.take_of_length_le (by have := HN.out; omega)] at h
      exact ⟨_, _, rfl, h.ungroup⟩
end Go.Proofs.YtdncpihaeobaeaaGreat

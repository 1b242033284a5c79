/- Walk of cordonkeep.Own. -/
import Derived.Test.YtdncpihaeobaeaaGreatPoolS
import Derived.Test.YtdncpihaeobaeaaGreatCoreRuns
import Derived.Test.YtdncpihaeobaeaaGreatOrdLaw
set_option linter.unusedVariables false
set_option linter.unusedSimpArgs false
namespace Go.Proofs.YtdncpihaeobaeaaGreat
open Go.RowKit
theorem ownA_map {α β γ δ : Type} (f : α → γ) (g : β → δ) (P : γ → Bool) : ∀ (l : List α) (m : List β), (ownA (fun a => P (f a)) l m).map g = ownA P (l.map f) (m.map g)
  | [], m => by cases m <;> rfl
  | _ :: _, [] => rfl
  | a :: l, b :: m => by
    simp only [ownA, List.map_cons]
    split
    · rw [List.map_cons, ownA_map f g P l m]
    · exact ownA_map f g P l m
theorem ownA_sub {α β : Type} (P : α → Bool) : ∀ (l : List α) (m : List β), ∀ x ∈ ownA P l m, x ∈ m
  | [], m, x, hx => by cases m <;> cases hx
  | _ :: _, [], x, hx => by cases hx
  | a :: l, b :: m, x, hx => by
    simp only [ownA] at hx
    split at hx
    · rcases List.mem_cons.1 hx with rfl | hx
      · simp
      · exact List.mem_cons_of_mem _ (ownA_sub P l m x hx)
    · exact List.mem_cons_of_mem _ (ownA_sub P l m x hx)
theorem ownA_take {α β : Type} (P : α → Bool) (l : List α) (m : List β) (k : Nat) (hk : k < l.length) (hm : k < m.length) : ownA P (l.take (k + 1)) (m.take (k + 1)) = ownA P (l.take k) (m.take k) ++ if P l[k] then [m[k]] else [] := by
  rw [List.take_add_one, List.take_add_one, List.getElem?_eq_getElem hk, List.getElem?_eq_getElem hm, ownA_append _ _ _ _ _ (by simp; omega)]
  simp only [Option.toList_some, ownA]
theorem ownA_len {α β : Type} (P : α → Bool) : ∀ (l : List α) (m : List β), (ownA P l m).length ≤ m.length
  | [], m => by cases m <;> simp [ownA]
  | _ :: _, [] => by simp [ownA]
  | a :: l, b :: m => by
    simp only [ownA]
    have := ownA_len P l m
    split <;> simp <;> omega
set_option maxHeartbeats 8000000 in
set_option maxRecDepth 20000 in
theorem ownW_st {w0 w : World} {L : List HP} (h : St w0 w L) (aa : Option Addr) (ac : Nat) (as_ : List ActR) (hl : Seen w0 (sepL L) 15 ActR.cells aa as_) (xa : Option Addr) (xc n : Nat) (xs : List AnsR) (hx : Seen w0 (sepL L) 3 AnsR.cells xa xs) (t : Int) (hn : as_.length = n) (hm : xs.length = n) (hmx : n ≤ 1000000) :
    Calls Tryz.prog 28 #[.slice aa n ac, .slice xa n xc, .int .i64 t] w fun e w' => ∃ v, e = .returned v ∧ St w0 w' (L ++ [ownP 51 3 AnsR.cells v (ownA (fun a : ActR => ansB t a.val) as_ xs)]) := by
  have hst : St w0 w [sepL L, ownP 51 3 AnsR.cells (.slice none 0 0) (ownA (fun a : ActR => ansB t a.val) (as_.take 0) (xs.take 0))] := (h.wrap.nil 51 3 AnsR.cells)
  have HS := Lib.hid hst
  have HL := Lib.hid hl
  have HX := Lib.hid hx
  have HN := Lib.hid hn
  have HM := Lib.hid hm
  clear h hl hx hst hn hm
  go_enter Tryz.func28, Tryz.ntmps28
  go_wp2_with fail
  go_loopw [7, 12] (fun v iv wr => ∃ k : Nat, k ≤ n ∧ iv = .int .i64 k ∧ St w0 wr [sepL L, ownP 51 3 AnsR.cells v (ownA (fun a : ActR => ansB t a.val) (as_.take k) (xs.take k))]) (fun _ iv _ => n - (intOf iv).toNat)
  case atStart => exact ⟨0, by omega, rfl, HS.out⟩
  case round =>
    clear HS
    obtain ⟨k, hk, rfl, hst⟩ := hrel
    by_cases hlt : (k : Int) < n
    · obtain ⟨va, vc, hov, _⟩ := hst.sl AnsR.len 1 rfl
      subst hov
      have hk1 : k < as_.length := by have := HN.out; omega
      have hk2 : k < xs.length := by have := HM.out; omega
      obtain ⟨x, hx⟩ : ∃ x, as_[k] = x := ⟨_, rfl⟩
      obtain ⟨y, hy⟩ : ∃ y, xs[k] = y := ⟨_, rfl⟩
      have htk := ownA_take (fun a : ActR => ansB t a.val) as_ xs k hk1 hk2
      rw [hx, hy] at htk
      have hle : (ownA (fun a : ActR => ansB t a.val) (as_.take k) (xs.take k)).length < 1099511627776 := by
        have := ownA_len (fun a : ActR => ansB t a.val) (as_.take k) (xs.take k)
        rw [List.length_take] at this
        omega
      obtain ⟨b, o, rfl, hbl, c0, c1, c2, c3, c4, c5, c6, c7, c8, c9, c10, c11, c12, c13, c14⟩ := (HL.out wr _ 0 hst rfl).actAt k hk1 x hx
      obtain ⟨b2, o2, rfl, hbl2, d0, d1, d2⟩ := (HX.out wr _ 0 hst rfl).ansAt k hk2 y hy
      obtain ⟨kd, tn, fr, nn, oa, oc, ⟨ops, sz, sl, ag, sk, fd⟩, ⟨im, ⟨et, ek, ev, el⟩⟩⟩ := x
      obtain ⟨ye, ra, rc, yr, ta, tc, yt⟩ := y
      dsimp only at c0 c1 c2 c3 c4 c5 c6 c7 c8 c9 c10 c11 c12 c13 c14 d0 d1 d2
      have hP : ansB t (⟨kd, tn, fr, nn, oa, oc, ⟨ops, sz, sl, ag, sk, fd⟩, ⟨im, ⟨et, ek, ev, el⟩⟩⟩ : ActR).val = ((tn == t) && !(kd == 3) && !(kd == 5)) := rfl
      rw [hP] at htk
      have h3 : St w0 (wr.alloc (.cells #[.int .i64 kd, .int .i64 tn, .int .i64 fr, .int .i64 nn, .slice oa ops.length oc, .int .i64 sz, .int .i64 sl, .int .i64 ag, .int .i64 sk, .int .i64 fd, .bool im, .int .i64 et, .int .i64 ek, .int .i64 ev, .int .u64 el] 67)) [sepL L, ownP 51 3 AnsR.cells (.slice va (ownA (fun a : ActR => ansB t a.val) (as_.take k) (xs.take k)).length vc) (ownA (fun a : ActR => ansB t a.val) (as_.take k) (xs.take k)), pt wr.heap.size (.cells #[.int .i64 kd, .int .i64 tn, .int .i64 fr, .int .i64 nn, .slice oa ops.length oc, .int .i64 sz, .int .i64 sl, .int .i64 ag, .int .i64 sk, .int .i64 fd, .bool im, .int .i64 et, .int .i64 ek, .int .i64 ev, .int .u64 el] 67 (0, 0))] := hst.alloc (.cells #[.int .i64 kd, .int .i64 tn, .int .i64 fr, .int .i64 nn, .slice oa ops.length oc, .int .i64 sz, .int .i64 sl, .int .i64 ag, .int .i64 sk, .int .i64 fd, .bool im, .int .i64 et, .int .i64 ek, .int .i64 ev, .int .u64 el] 67)
      generalize hgo : (ownA (fun a : ActR => ansB t a.val) (as_.take k) (xs.take k)) = out at *
      have HTK := Lib.hid htk
      have HLE := Lib.hid hle
      have H3 := Lib.hid h3
      have h4 := h3.alloc (.cells #[.int .i64 ye, .slice ra yr.length rc, .slice ta yt.length tc] 51)
      rw [World.size_alloc] at h4
      have H4 := Lib.hid h4
      clear htk hle h3 h4 hst hx hy hP hgo
      by_cases q1 : (tn == t) = true
      · have q1 : tn = t := by simpa using q1
        by_cases q2 : kd = 3
        · subst q1 q2
          go_wp2_with fail
          go_roundw
          case rel => exact ⟨k + 1, by omega, by go_num, by rw [HTK.out]; simpa using H3.out.pick [0, 1] (by decide)⟩
          case measure => simp [intOf]; omega
        · by_cases q3 : kd = 5
          · subst q1 q3
            go_wp2_with fail
            go_roundw
            case rel => exact ⟨k + 1, by omega, by go_num, by rw [HTK.out]; simpa using H3.out.pick [0, 1] (by decide)⟩
            case measure => simp [intOf]; omega
          · subst q1
            have q4 : ((tn == tn) && !(kd == 3) && !(kd == 5)) = true := by simp [q2, q3]
            rw [q4, if_pos rfl] at HTK
            clear q4
            have p2 : (kd != 3) = true := by simp [q2]
            have p3 : (kd != 5) = true := by simp [q3]
            go_wp2_with (at_builtin; refine wpList_push_st ansElem rfl H4.out 1 rfl _ _ rfl rfl _ (⟨ye, ra, rc, yr, ta, tc, yt⟩ : AnsR) rfl (H4.out.blk 3 rfl).1 HLE.out ?_; intro v7 w7 hst7 _; have H7 := Lib.hid (hst7.pick [0, 1] (by decide)); clear hst7 H4)
            go_roundw
            case rel => exact ⟨k + 1, by omega, by go_num, by rw [HTK.out]; exact H7.out⟩
            case measure => simp [intOf]; omega
      · have q4 : ((tn == t) && !(kd == 3) && !(kd == 5)) = false := by simp [q1]
        have q1 : ¬ tn = t := by simpa using q1
        rw [q4, if_neg (by decide), List.append_nil] at HTK
        go_wp2_with fail
        go_roundw
        case rel => exact ⟨k + 1, by omega, by go_num, by rw [HTK.out]; exact H3.out.pick [0, 1] (by decide)⟩
        case measure => simp [intOf]; omega
    · have HST := Lib.hid hst
      clear hst
      go_wp2
      go_ret
      refine ⟨_, rfl, ?_⟩
      obtain rfl : k = n := by omega
      have h5 := HST.out.unwrap
      rw [List.take_of_length_le (Nat.le_of_eq HN.out), List.take_of_length_le (Nat.le_of_eq HM.out)] at h5
      exact h5
end Go.Proofs.YtdncpihaeobaeaaGreat

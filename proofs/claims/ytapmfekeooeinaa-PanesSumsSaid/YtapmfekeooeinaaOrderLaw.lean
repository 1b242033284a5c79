/- The plain law of PanesOrder: events in any order. -/
import Derived.Test.YtapmfekeooeinaaKeyLaw
set_option linter.unusedVariables false
set_option linter.unusedSimpArgs false
namespace Go.Proofs.Ytapmfekeooeinaa
open Go.RowKit Go.Maps
theorem foldl_perm {α β : Type} {f : β → α → β} {I : β → Prop} (hf : ∀ b a, I b → I (f b a)) (hc : ∀ b x y, I b → f (f b x) y = f (f b y) x) {l m : List α} (h : l.Perm m) : ∀ b, I b → l.foldl f b = m.foldl f b := by
  induction h with
  | nil => intro b _; rfl
  | cons x _ ih => intro b hb; exact ih (f b x) (hf b x hb)
  | swap x y l => intro b hb; show l.foldl f (f (f b y) x) = l.foldl f (f (f b x) y); rw [hc b y x hb]
  | trans _ _ ih1 ih2 => intro b hb; rw [ih1 b hb, ih2 b hb]
theorem lookL_ins {L : PL} (hs : SortedL L) (p q : Pl) (x : Pn) : lookL (insL L p x) q = if q = p then some x else lookL L q := by
  have hs' := insL_sorted hs p x
  by_cases h : q = p
  · rw [if_pos h, lookL_some hs']
    exact (mem_insL hs q x).2 (.inl ⟨h, rfl⟩)
  · rw [if_neg h]
    cases hl : lookL L q with
    | none =>
      rw [lookL_none hs']
      intro y hy
      rcases (mem_insL hs q y).1 hy with ⟨e, _⟩ | ⟨_, hm⟩
      · exact h e
      · exact (lookL_none hs).1 hl y hm
    | some y =>
      rw [lookL_some hs']
      exact (mem_insL hs q y).2 (.inr ⟨h, (lookL_some hs).1 hl⟩)
/-- An event's step at a window's place. -/
def stepO (kd : Int) (o : Option Pn) (e : Ev) : Option Pn := some (stepPn (o.getD ⟨0, kd, 0, 0⟩) e.value e.label)
def touch (sz sl : Int) (p : Pl) (e : Ev) : Bool := decide (e.key = p.1.2 ∧ p.1.1 ∈ startsOf e.time sz sl)
theorem puts_look {kd : Int} (e : Ev) (he : e.wf) (p : Pl) : ∀ (ss : List Int) (L : PL), (∀ s ∈ ss, (Lit.int .i64 s).wf = true) → ss.Nodup → SortedL L →
    lookL (ss.foldl (fun L s => putS kd L e s) L) p = if e.key = p.1.2 ∧ p.1.1 ∈ ss then stepO kd (lookL L p) e else lookL L p
  | [], L, _, _, _ => by simp
  | s :: ss, L, hw, hn, hs => by
    have hn' := List.nodup_cons.1 hn
    have hws := hw s (by simp)
    have h1 : lookL (putS kd L e s) p = if p = plOf s e.key then stepO kd (lookL L p) e else lookL L p := by
      unfold putS
      rw [lookL_ins hs]
      by_cases h : p = plOf s e.key
      · subst h; rw [if_pos rfl, if_pos rfl]; rfl
      · rw [if_neg h, if_neg h]
    have hp : p = plOf s e.key ↔ e.key = p.1.2 ∧ p.1.1 = s := by
      constructor
      · rintro rfl
        rw [plOf_1 hws he.2.1]
        exact ⟨rfl, rfl⟩
      · rintro ⟨h1, h2⟩
        refine Subtype.ext ?_
        rw [plOf_1 hws he.2.1]
        exact Prod.ext h2 h1.symm
    rw [List.foldl_cons, puts_look e he p ss _ (fun t h => hw t (by simp [h])) hn'.2 (putS_sorted hs e s), h1]
    by_cases hk : e.key = p.1.2
    · by_cases h2 : p.1.1 = s
      · have h3 : p.1.1 ∉ ss := h2 ▸ hn'.1
        rw [if_neg (fun h => h3 h.2), if_pos (hp.2 ⟨hk, h2⟩), if_pos ⟨hk, by simp [h2]⟩]
      · rw [if_neg (fun h => h2 (hp.1 h).2)]
        by_cases h3 : p.1.1 ∈ ss
        · rw [if_pos ⟨hk, h3⟩, if_pos ⟨hk, by simp [h3]⟩]
        · rw [if_neg (fun h => h3 h.2), if_neg (fun h => by rcases List.mem_cons.1 h.2 with h | h; exact h2 h; exact h3 h)]
    · rw [if_neg (fun h => hk h.1), if_neg (fun h => hk (hp.1 h).1), if_neg (fun h => hk h.1)]
theorem winds_lt {last time size slide : Int} (hsl : 1 ≤ slide) : ∀ (n : Nat), (winds last time size slide n).Pairwise (· < ·) ∧ ∀ s ∈ winds last time size slide n, last - n * slide < s
  | 0 => by simp [winds]
  | n + 1 => by
    obtain ⟨h1, h2⟩ := winds_lt hsl n (last := last) (time := time) (size := size)
    have e : ((n + 1 : Nat) : Int) * slide = n * slide + slide := by rw [Int.natCast_add, Int.add_mul]; simp
    unfold winds
    constructor
    · refine List.pairwise_append.2 ⟨by split <;> simp, h1, fun a ha b hb => ?_⟩
      split at ha
      · simp at ha
        subst ha
        exact h2 b hb
      · simp at ha
    · intro s hs
      rcases List.mem_append.1 hs with h | h
      · split at h
        · simp at h
          subst h
          omega
        · simp at h
      · have := h2 s h
        omega
theorem starts_nodup (t sz sl : Int) : (startsOf t sz sl).Nodup := by
  unfold startsOf
  split
  · rename_i h
    exact ((winds_lt h.1.1 _).1).imp (fun h => by omega)
  · simp
theorem putE_look {kd sz sl : Int} {L : PL} (hs : SortedL L) (e : Ev) (he : e.wf) (p : Pl) : lookL (putE kd sz sl L e) p = if touch sz sl p e then stepO kd (lookL L p) e else lookL L p := by
  unfold putE
  rw [puts_look e he p _ L (fun s h => starts_wf h) (starts_nodup _ _ _) hs]
  unfold touch
  by_cases h : e.key = p.1.2 ∧ p.1.1 ∈ startsOf e.time sz sl
  · rw [if_pos h, if_pos (decide_eq_true h)]
  · rw [if_neg h, if_neg (by simpa using h)]
theorem putL_look {kd sz sl : Int} (p : Pl) : ∀ (es : List Ev) (L : PL), (∀ e ∈ es, e.wf) → SortedL L → lookL (putL kd sz sl L es) p = (es.filter (touch sz sl p)).foldl (stepO kd) (lookL L p)
  | [], L, _, _ => rfl
  | e :: es, L, hw, hs => by
    show lookL (putL kd sz sl (putE kd sz sl L e) es) p = _
    rw [putL_look p es _ (fun e h => hw e (by simp [h])) (putE_sorted hs e), putE_look hs e (hw e (by simp)), List.filter_cons]
    by_cases h : touch sz sl p e = true
    · rw [if_pos h, if_pos h]; rfl
    · rw [if_neg h, if_neg h]
theorem putL_sorted {kd sz sl : Int} : ∀ (es : List Ev) (L : PL), SortedL L → SortedL (putL kd sz sl L es)
  | [], _, hs => hs
  | e :: es, L, hs => putL_sorted es _ (putE_sorted hs e)
theorem sortedL_ext {L M : PL} (hL : SortedL L) (hM : SortedL M) (h : ∀ p, lookL L p = lookL M p) : L = M := by
  have hk : L.map (·.1) = M.map (·.1) := by
    refine sorted_ext (List.pairwise_map.2 hL) (List.pairwise_map.2 hM) fun p => ?_
    simp only [List.mem_map]
    constructor
    · rintro ⟨⟨q, x⟩, hx, rfl⟩
      exact ⟨(q, x), (lookL_some hM).1 ((h q) ▸ (lookL_some hL).2 hx), rfl⟩
    · rintro ⟨⟨q, x⟩, hx, rfl⟩
      exact ⟨(q, x), (lookL_some hL).1 ((h q).symm ▸ (lookL_some hM).2 hx), rfl⟩
  have hl : L.length = M.length := by simpa using congrArg List.length hk
  refine List.ext_getElem hl fun i h1 h2 => ?_
  have hp : L[i].1 = M[i].1 := by
    have := List.getElem_of_eq hk (i := i) (by simpa using h1)
    simpa using this
  have hx : some L[i].2 = some M[i].2 := by
    rw [← (lookL_some hL (p := L[i].1) (x := L[i].2)).2 (List.getElem_mem h1), ← (lookL_some hM (p := M[i].1) (x := M[i].2)).2 (List.getElem_mem h2), hp, h]
  exact Prod.ext hp (Option.some.inj hx)
theorem or_swap (l a b : Int) : bits .or .u64 (bits .or .u64 l a) b = bits .or .u64 (bits .or .u64 l b) a := by
  simp only [bits_or64, bv_toNat]
  rw [BitVec.or_assoc, BitVec.or_comm (bv a) (bv b), ← BitVec.or_assoc]
theorem wrap_swap (v a b : Int) : wrap64 (wrap64 (v + a) + b) = wrap64 (wrap64 (v + b) + a) := by
  unfold wrap64
  omega
theorem take_swap (k c v a b : Int) (hc : 0 ≤ c) : takeV k (c + 1) (takeV k c v a 1) b 1 = takeV k (c + 1) (takeV k c v b 1) a 1 := by
  have h1 : ¬ c + 1 = 0 := by omega
  unfold takeV
  by_cases k1 : k = 1
  · simp [k1]
  · by_cases k2 : k = 2
    · simp only [k1, k2, if_false, if_true]
      exact wrap_swap v a b
    · by_cases k3 : k = 3
      · simp only [k1, k2, k3, if_false, h1, true_and, false_or]
        simp
        repeat' split
        all_goals omega
      · by_cases k4 : k = 4
        · simp only [k1, k2, k3, k4, if_false, h1, true_and, false_or]
          simp
          repeat' split
          all_goals omega
        · simp [k1, k2, k3, k4]
theorem step_swap {kd : Int} (o : Option Pn) (x y : Ev) (h : 0 ≤ (o.getD ⟨0, kd, 0, 0⟩).c) : stepO kd (stepO kd o x) y = stepO kd (stepO kd o y) x := by
  unfold stepO
  simp only [Option.getD_some]
  unfold stepPn
  simp only
  rw [take_swap _ _ _ _ _ h, or_swap]
theorem putL_perm {kd sz sl : Int} {es fs : List Ev} (h : es.Perm fs) (hw : ∀ e ∈ es, e.wf) : putL kd sz sl [] es = putL kd sz sl [] fs := by
  refine sortedL_ext (putL_sorted es [] List.Pairwise.nil) (putL_sorted fs [] List.Pairwise.nil) fun p => ?_
  rw [putL_look p es [] hw List.Pairwise.nil, putL_look p fs [] (fun e he => hw e (h.symm.subset he)) List.Pairwise.nil]
  exact foldl_perm (I := fun o => 0 ≤ (o.getD ⟨0, kd, 0, 0⟩).c) (fun o e ho => by show 0 ≤ (o.getD ⟨0, kd, 0, 0⟩).c + 1; omega) (fun o x y ho => step_swap o x y ho) (h.filter _) none (by show (0 : Int) ≤ 0; omega)
/-- What a window holds: as many as came in, their labels. -/
theorem fold_step {kd : Int} : ∀ (F : List Ev) (o : Option Pn), F.foldl (stepO kd) o = o ∧ F = [] ∨ ∃ x, F.foldl (stepO kd) o = some x ∧ x.c = (o.getD ⟨0, kd, 0, 0⟩).c + F.length ∧ x.l = F.foldl (fun l e => bits .or .u64 l e.label) (o.getD ⟨0, kd, 0, 0⟩).l ∧ F ≠ []
  | [], o => .inl ⟨rfl, rfl⟩
  | e :: F, o => by
    right
    rcases fold_step F (stepO kd o e) with ⟨h, rfl⟩ | ⟨x, h1, h2, h3, h4⟩
    · exact ⟨_, h, rfl, rfl, by simp⟩
    · refine ⟨x, h1, ?_, h3, by simp⟩
      rw [h2]
      show (o.getD ⟨0, kd, 0, 0⟩).c + 1 + (F.length : Int) = (o.getD ⟨0, kd, 0, 0⟩).c + ((F.length + 1 : Nat) : Int)
      omega
theorem winds_in {last time size slide : Int} (k : Nat) (h1 : 0 ≤ last - k * slide) (h2 : time - size < last - k * slide) : ∀ n : Nat, k < n → last - k * slide ∈ winds last time size slide n
  | 0, h => absurd h (by omega)
  | n + 1, h => by
    unfold winds
    by_cases hk : k = n
    · subst hk
      rw [if_pos ⟨h1, h2⟩]
      simp
    · exact List.mem_append.2 (.inr (winds_in k h1 h2 n (by omega)))
theorem starts_iff {t sz sl s : Int} : s ∈ startsOf t sz sl ↔ rightW sz sl ∧ 0 ≤ t ∧ t ≤ 1099511627776 ∧ 0 ≤ s ∧ s ≤ t ∧ t < s + sz ∧ sl ∣ s := by
  constructor
  · intro h
    have hr := starts_range h
    refine ⟨hr.1, hr.2.1, hr.2.2.1, hr.2.2.2.1, hr.2.2.2.2.1, hr.2.2.2.2.2, ?_⟩
    unfold startsOf at h
    rw [if_pos ⟨hr.1, hr.2.1, hr.2.2.1⟩] at h
    obtain ⟨_, _, k, _, rfl⟩ := winds_mem h
    have e := Int.mul_ediv_add_emod t sl
    exact ⟨t / sl - k, by rw [Int.mul_sub, Int.mul_comm (k : Int) sl]; omega⟩
  · rintro ⟨hr, h0, h1, h2, h3, h4, q, rfl⟩
    unfold startsOf
    rw [if_pos ⟨hr, h0, h1⟩]
    have e := Int.mul_ediv_add_emod t sl
    have he0 := Int.emod_nonneg t (show sl ≠ 0 by have := hr.1; omega)
    have he1 := Int.emod_lt_of_pos t (show 0 < sl by have := hr.1; omega)
    have hsl := hr.1
    have hq : q ≤ t / sl := by
      rw [Int.le_ediv_iff_mul_le (by omega), Int.mul_comm]
      exact h3
    obtain ⟨k, hk⟩ : ∃ k : Nat, (k : Int) = t / sl - q := ⟨(t / sl - q).toNat, by omega⟩
    have hks : (k : Int) * sl = sl * (t / sl) - sl * q := by rw [hk, Int.mul_comm, Int.mul_sub]
    have hl : sl * q = t - t % sl - k * sl := by omega
    have hm := (mostOf_mul hr.1 hr.2.1).1
    have hkm : k < (mostOf sz sl).toNat := by
      have h5 : (k : Int) * sl < mostOf sz sl * sl := by omega
      have h6 := Int.lt_of_mul_lt_mul_right h5 (by omega)
      omega
    rw [hl]
    exact winds_in k (by omega) (by omega) _ hkm
def totalL (L : PL) : Int := (L.map fun q => q.2.c).sum
theorem totalL_ins {p : Pl} {x : Pn} : ∀ {L : PL}, SortedL L → totalL (insL L p x) + ((lookL L p).getD Pn.zero).c = totalL L + x.c
  | [], _ => by simp [insL, lookL, totalL, Pn.zero]
  | q :: L, hs => by
    have hs' := List.pairwise_cons.1 hs
    have ih := totalL_ins (p := p) (x := x) hs'.2
    rw [insL_cons, lookL_cons]
    by_cases h1 : q.1 = p
    · rw [if_pos h1, if_pos h1]
      simp [totalL]
      omega
    · rw [if_neg h1, if_neg h1]
      by_cases h2 : ltP q.1 p
      · rw [if_pos h2]
        simp [totalL] at *
        omega
      · rw [if_neg h2]
        have hn : lookL L p = none := by
          rw [lookL_none hs'.2]
          intro y hy
          exact ltP_irrefl p (ltP_trans (ltP_total h1 h2) (hs'.1 _ hy))
        rw [hn] at *
        simp [totalL, Pn.zero] at *
        omega
theorem totalL_puts {kd : Int} (e : Ev) : ∀ (ss : List Int) (L : PL), SortedL L → totalL (ss.foldl (fun L s => putS kd L e s) L) = totalL L + ss.length
  | [], L, _ => by simp
  | s :: ss, L, hs => by
    rw [List.foldl_cons, totalL_puts e ss _ (putS_sorted hs e s)]
    have h := totalL_ins (p := plOf s e.key) (x := stepPn ((lookL L (plOf s e.key)).getD ⟨0, kd, 0, 0⟩) e.value e.label) hs
    have h2 : ((lookL L (plOf s e.key)).getD ⟨0, kd, 0, 0⟩).c = ((lookL L (plOf s e.key)).getD Pn.zero).c := by cases lookL L (plOf s e.key) <;> rfl
    have h3 : (stepPn ((lookL L (plOf s e.key)).getD ⟨0, kd, 0, 0⟩) e.value e.label).c = ((lookL L (plOf s e.key)).getD ⟨0, kd, 0, 0⟩).c + 1 := rfl
    show totalL (putS kd L e s) + ((ss.length : Nat) : Int) = totalL L + ((ss.length + 1 : Nat) : Int)
    unfold putS
    omega
theorem totalL_putL {kd sz sl : Int} : ∀ (es : List Ev) (L : PL), SortedL L → totalL (putL kd sz sl L es) = totalL L + (es.map fun e => ((startsOf e.time sz sl).length : Int)).sum
  | [], L, _ => by simp [putL]
  | e :: es, L, hs => by
    show totalL (putL kd sz sl (putE kd sz sl L e) es) = _
    rw [totalL_putL es _ (putE_sorted hs e)]
    unfold putE
    rw [totalL_puts e _ L hs, List.map_cons, List.sum_cons, Int.add_assoc]
/-- the events of a row -/
def inRow (n : Int) (r : Rw) (e : Ev) : Bool := decide (e.key = r.key ∧ r.start ≤ e.time ∧ e.time < r.start + n)
theorem row_holds {kd n s : Int} {es : List Ev} (hw : ∀ e ∈ es, e.wf) (hr : rightW n s) (ht : ∀ e ∈ es, 0 ≤ e.time ∧ e.time ≤ 1099511627776) {r : Rw} (h : r ∈ rowsL (putL kd n s [] es)) :
    r.count = (es.filter (inRow n r)).length ∧ r.label = (es.filter (inRow n r)).foldl (fun l e => bits .or .u64 l e.label) 0 ∧ 1 ≤ (es.filter (inRow n r)).length := by
  obtain ⟨⟨p, x⟩, hq, rfl⟩ := List.mem_map.1 h
  have hs := putL_sorted (kd := kd) (sz := n) (sl := s) es [] List.Pairwise.nil
  have hl := (lookL_some hs).2 hq
  rw [putL_look p es [] hw List.Pairwise.nil] at hl
  rcases fold_step (es.filter (touch n s p)) (lookL [] p) with ⟨h1, h2⟩ | ⟨y, h1, h2, h3, h4⟩
  · rw [h2] at hl
    cases hl
  · rw [h1] at hl
    cases hl
    have hd : s ∣ p.1.1 ∧ 0 ≤ p.1.1 := by
      obtain ⟨e, F, he⟩ := List.exists_cons_of_ne_nil h4
      have hm : e ∈ es.filter (touch n s p) := by rw [he]; simp
      have h5 := of_decide_eq_true (List.mem_filter.1 hm).2
      have h6 := starts_iff.1 h5.2
      exact ⟨h6.2.2.2.2.2.2, h6.2.2.2.1⟩
    have hf : es.filter (touch n s p) = es.filter (inRow n (rowOf p x)) := by
      refine List.filter_congr fun e he => ?_
      unfold touch inRow rowOf
      refine decide_eq_decide.2 ⟨fun h => ?_, fun h => ?_⟩
      · have := starts_iff.1 h.2
        exact ⟨h.1, this.2.2.2.2.1, this.2.2.2.2.2.1⟩
      · exact ⟨h.1, starts_iff.2 ⟨hr, (ht e he).1, (ht e he).2, hd.2, h.2.1, h.2.2, hd.1⟩⟩
    rw [hf] at h2 h3 h4
    refine ⟨?_, ?_, List.length_pos_iff.2 h4⟩
    · show x.c = _
      rw [h2]
      simp [lookL]
    · exact h3
theorem rows_total (L : PL) : ((rowsL L).map fun r => r.count).sum = totalL L := by
  unfold rowsL totalL
  rw [List.map_map]
  rfl
end Go.Proofs.Ytapmfekeooeinaa
